/- Part of a proof: HierK HierL HierLa StarA. -/
import Derived.Test.YtaellcgglldjaaaGreatHierFindsQ33
import Derived.Test.YtaellcgglldjaaaGreatHierFindsQ34
import Derived.Stop.RegionWithIn
import Derived.Shelf.Abstract
import Derived.Test.YtaellcgglldjaaaGreatHierFindsQ22
import Derived.Test.YtaellcgglldjaaaGreatHierFindsQ01
set_option linter.all false
set_option linter.unusedVariables false
set_option linter.unusedSimpArgs false
namespace Go.Proofs.YtaellcgglldjaaaGreat
open Go.RowKit
attribute [local go_sem] Oper.semAt_some
theorem aLz:Tryz.prog.underlying 56=some (.struct (Tryz.prog.fieldsOf 56)):=by kernel_rfl
theorem aI4:Tryz.prog.stoodInHeld 56=false:=by kernel_rfl
theorem yQ (d:Nat) (a b a2 b2 x c e c2 e2 y:Int) (w:World):(Op.equalIn (d+5) 56 (.agg #[.int .i64 a, .int .i64 b, .int .i64 a2, .int .i64 b2, .int .u64 x]) (.agg #[.int .i64 c, .int .i64 e, .int .i64 c2, .int .i64 e2, .int .u64 y])).run Tryz.prog w= .ok ((a==c&&b==e)&&((a2==c2&&b2==e2)&&x==y)) w:=by
 rw[run_equalIn_struct w (d+4) 56 _ _ aLz aI4]
 have h1:=kW (d+1) a b c e
 have h2:=kW (d+1) a2 b2 c2 e2
 cases h:(a==c&&b==e)<;>cases h':(a2==c2&&b2==e2)<;>cases h3:x==y<;>simp[go_sem,h1,h2,h,h',h3]
def dU (D:aB→Int) (a:aB) (C:List aB):List (aB×Int):=(C.filter fun c=> !(decide (c=a))&& !(decide (D c=aJ))).map fun c=>(c,D c)
theorem aJi (W H s:Int) (l:List Int) (G:List (aB×aB)) (f t a:aB):bL W H s l (aN W H G f t) a=dU (cA W H s l a) a (inC W H s G f t (ofN W s a.1 a.2)):=by
 unfold bL dU inC
 rw[List.filter_filter]
 congr 1
 refine List.filter_congr fun c _=> ?_
 rw[Bool.and_comm]
theorem aGs {D:aB→Int} {a c:aB} {C:List aB} {k:Nat} (h:C[k]? =some c):dU D a (C.take (k+1))=dU D a (C.take k)++(if c≠a∧D c≠aJ then[(c,D c)] else[]):=by
 unfold dU
 rw[List.take_add_one,h,List.filter_append,List.map_append]
 congr 1
 by_cases h1:c=a
 ·simp[h1]
 by_cases h2:D c=aJ
 ·simp[h1,h2]
 simp[h1,h2]
theorem aJf (D:aB→Int) (a:aB) (C:List aB) (k:Nat):dU D a (C.take k)<+:dU D a C:=by
 have h:C=C.take k++C.drop k:=(List.take_append_drop k C).symm
 refine⟨dU D a (C.drop k),?_⟩
 unfold dU
 rw[←List.map_append,←List.filter_append,←h]
theorem aGu {W:Int} {l:List Int} {G:List (aB×aB)} {a:aB} {k:Nat} {g:aB×aB} (h:G[k]? =some g):bH W l (G.take (k+1)) a=bH W l (G.take k) a++gL W l a g:=by
 unfold bH
 rw[List.take_add_one,h,List.flatMap_append]
 simp
theorem aGv (W:Int) (l:List Int) (G:List (aB×aB)) (a:aB) (k:Nat):bH W l (G.take k) a<+:bH W l G a:=by
 have h:G=G.take k++G.drop k:=(List.take_append_drop k G).symm
 refine⟨bH W l (G.drop k) a,?_⟩
 unfold bH
 rw[←List.flatMap_append,←h]
theorem aI6 (W:Int) (l:List Int) (a:aB) {g:aB×aB} (hne:g.1≠g.2):(gL W l a g=[]∧pM W l g a=cD (0,0) (0,0) 0)∨ ∃q:aB×Int,gL W l a g=[q]∧pM W l g a=cD a q.1 q.2∧q.1≠a:=by
 unfold gL pM
 by_cases h1:g.1=a
 ·rw[if_pos h1,if_pos h1]
  exact .inr ⟨_,rfl,rfl,fun e=>hne (h1.trans e.symm)⟩
 rw[if_neg h1,if_neg h1]
 by_cases h2:g.2=a
 ·rw[if_pos h2,if_pos h2]
  exact .inr ⟨_,rfl,rfl,fun e=>h1 e⟩
 rw[if_neg h2,if_neg h2]
 exact .inl ⟨rfl,rfl⟩
section
variable {w0 w:World} {lb:Nat} {p:Spot} {R0:Nat→Prop} {W H s:Int} {l:List Int} {fa:Option Addr} {fc:Nat} {ga:Option Addr} {gc:Nat} {f t:aB}
theorem aBm (a:aB) (w:World):Calls Tryz.prog 53 #[.pointer (some ⟨lb,0,none⟩), .agg #[.int .i64 a.1, .int .i64 a.2]] w fun e w'=>e= .returned (.func (.func 99) #[] #[.pointer (some ⟨w.heap.size,0,none⟩), .pointer (some ⟨w.heap.size+1,0,none⟩)])∧w'=(w.alloc (.cells #[.pointer (some ⟨lb,0,none⟩)] 98)).alloc (.cells #[.int .i64 a.1, .int .i64 a.2] 28):=by
 obtain⟨ax,ay⟩:=a
 go_enter Tryz.func53,Tryz.ntmps53
 go_wp2
 go_ret
 exact⟨rfl,rfl⟩
set_option maxRecDepth 100000 in
set_option maxHeartbeats 8000000 in
theorem zI (h:HLand w0 lb p R0 W H s l fa fc ga gc f t) (hx:Ext w0 w) (hgl:(aD W H s l).length≤45000) {a:aB} (ha:inB W H a.1 a.2=true) {bl ba:Nat} (Bl:Blk w bl 98 #[.pointer (some ⟨lb,0,none⟩)]) (Ba:Blk w ba 28 #[.int .i64 a.1, .int .i64 a.2]):
  IterN Tryz.prog 99 #[.pointer (some ⟨bl,0,none⟩), .pointer (some ⟨ba,0,none⟩)] (fun q:aB×Int=> #[cD a q.1 q.2]) (cB W H s l (aD W H s l) f t a) (fun k=>k<w0.heap.size∨k=bl∨k=ba) w:=by
 intro lp J W0 hx0 hA hE hN hS hY hJ0
 have HE:=aA hE
 have HN:=aA hN
 have HY:=aA hY
 have HJ0:=aA hJ0
 have X0:=aA (hx.trans hx0)
 have BL0:=aA (Bl.ext hx0)
 have BA0:=aA (Ba.ext hx0)
 have HLd:=aA (fun(w':World) (x:Ext w0 w')=>(h.ext x).blk)
 have HLg:=aA (fun(w':World) (x:Ext w0 w')=>(h.ext x).gates)
 have HW:=aA (aF4 (h.ext X0.out) ha)
 have HTH:=aA (fun(w':World) (x:Ext w0 w') (g:aB×aB) (hg:g∈aD W H s l)=>(by obtain⟨_,_,_,_,_,_,h1,h2,_⟩:=oB h.good.right hg;exact aC9 (h.ext x) g a h1 h2:Calls Tryz.prog 101 #[.pointer (some ⟨lb,0,none⟩), .agg #[.int .i64 g.1.1, .int .i64 g.1.2, .int .i64 g.2.1, .int .i64 g.2.2], .agg #[.int .i64 a.1, .int .i64 a.2]] w' fun e w''=>e= .returned (pM W l g a)∧Ext w' w''))
 have HGN:=aA (fun(g:aB×aB) (hg:g∈aD W H s l)=>(show g.1≠g.2 from fun e=>by
  obtain⟨x,y,_,hxy,_,_,_,_,o1,o2,_⟩:=oB h.good.right hg
  rw[e]at o1
  omega))
 have zw0:=X0.out.size
 unfold cB at HY⊢
 rw[aJi]at HY⊢
 unfold xX at HW
 obtain⟨ax,ay⟩:=a
 simp only at HW HTH BA0 HY⊢
 obtain⟨D,hD⟩: ∃z,cA W H s l (ax,ay)=z:=⟨_,rfl⟩
 obtain⟨C,hC⟩: ∃z,inC W H s (aD W H s l) f t (ofN W s ax ay)=z:=⟨_,rfl⟩
 have HCL:Hid (C.length≤300):=aA (by rw[←hC];have:=uQ h.good (iF h.good.right ha) (f:=f) (t:=t);simp only at this;omega)
 rw[hD,hC]at HW HY⊢
 obtain⟨G,hG⟩: ∃z,aD W H s l=z:=⟨_,rfl⟩
 rw[hG]at HTH HGN HLd HLg hgl HY⊢
 unfold eJ at HLd
 obtain⟨nl,hnl⟩: ∃z,l.length=z:=⟨_,rfl⟩
 rw[hnl]at HLd
 obtain⟨m,hm⟩: ∃z,G.length=z:=⟨_,rfl⟩
 have HM:=aA hm
 rw[hm]at HLd HLg hgl
 obtain⟨n,hn⟩: ∃z,C.length=z:=⟨_,rfl⟩
 have HNn:=aA hn
 have hn3:n≤300:=by have:=HCL.out;omega
 rw[hn]at HW
 obtain⟨pb,hpb⟩: ∃z,p.b=z:=⟨_,rfl⟩
 rw[hpb]at HLd
 clear hA hE hN hS hY hJ0 h hx Bl Ba hx0 hD hC hG hnl hm hn hpb HCL ha
 show Calls Tryz.prog 99 #[.func (.yield lp) #[] #[], .pointer (some ⟨bl,0,none⟩), .pointer (some ⟨ba,0,none⟩)] W0 _
 have c0:=BL0.out.at 0 rfl;have cz:=BL0.out.lt
 have d0:=BA0.out.at 0 rfl;have d1:=BA0.out.at 1 rfl;have dz:=BA0.out.lt
 go_enter Tryz.func99,Tryz.ntmps99
 go_wp2_with fail
 refine(HW.out).mono ?_
 rintro e w1 ⟨va,sb,sc,rfl,x1,oc,od⟩
 obtain⟨ca,cc,rfl⟩:=oc.slice
 rw[HNn.out]at oc⊢
 have OC:=aA oc
 have OD:=aA od
 have X1:=aA (X0.out.trans x1)
 have BL1:=aA (BL0.out.ext x1)
 have BA1:=aA (BA0.out.ext x1)
 have J1:=aA (HN.out _ _ _ _ HJ0.out x1)
 have zs1:=x1.size
 have HT1:=aA (fun(wr:World) (tt:Touch (fun j=> ¬(j<w0.heap.size∨j=bl∨j=ba)∧ ¬(W0.heap.size≤j∧j<w1.heap.size)) w1 wr)=>(show Ext w0 wr∧Own cellE wr W0.heap.size 28 (.slice ca n cc) C∧Own u64E wr W0.heap.size 38 (.slice sb n sc) (C.map D)∧Blk wr bl 98 #[.pointer (some ⟨lb,0,none⟩)]∧Blk wr ba 28 #[.int .i64 ax, .int .i64 ay] from
  ⟨((Touch.of_ext (S:=fun _=>False) X1.out).after tt (fun k hk hS=>hS.1 (.inl hk))).ext,OC.out.touch tt (fun k hk hS=>hS.2 (aF OC.out hk)),OD.out.touch tt (fun k hk hS=>hS.2 (aF OD.out hk)),BL1.out.touch tt (fun hS=>hS.1 (.inr (.inl rfl))),BA1.out.touch tt (fun hS=>hS.1 (.inr (.inr rfl)))⟩))
 clear c0 cz d0 d1 dz oc od x1 HJ0 HW BL0 BA0
 go_wp2_with fail
 go_loopw [19] (fun iv wr=> ∃(k:Nat) (T:Nat→Prop),k≤n∧iv= .int .i64 (k:Int)∧J T (dU D (ax,ay) (C.take k)) wr∧(∀j,W0.heap.size≤j→j<w1.heap.size→T j)∧Touch (fun j=> ¬(j<w0.heap.size∨j=bl∨j=ba)∧ ¬(W0.heap.size≤j∧j<w1.heap.size)) w1 wr) (fun iv _=>n-(intOf iv).toNat)
 case atStart=>exact⟨0,_,Nat.zero_le _,rfl,J1.out,(fun j h1 h2=> .inr ⟨h1,h2⟩),Touch.refl _ _⟩
 obtain⟨k,T,hk,rfl,hJ,hT,ht⟩:=hrel
 have JR:=aA hJ
 have TR:=aA hT
 have TT:=aA ht
 obtain⟨xr,ocr,odr,blr,bar⟩:=HT1.out _ ht
 have XR:=aA xr
 have OCR:=aA ocr
 have BLR:=aA blr
 have BAR:=aA bar
 by_cases hlt:k<n
 ·have hkl:k<C.length:=by rw[HNn.out];exact hlt
  obtain⟨rb,ro,hre,hrb,q0,q1⟩:=nE ocr.reads (zG hkl)
  subst hre
  have hru:=(Reads.rowU odr.reads).2
  obtain⟨ub,uo,hue,hub,huc⟩:=hru (by simp;omega)
  subst hue
  have HUB:=aA (aF OD.out (k:=ub) rfl)
  have u0:=huc k (by simp;omega)
  simp only[List.getElem_map]at u0
  have HNX:=aA (aGs (D:=D) (a:=(ax,ay)) (zG hkl))
  have HPRE:=aA (aJf D (ax,ay) C (k+1))
  clear hJ hT ht xr ocr odr blr bar huc hru
  generalize C[k]=c at *
  obtain⟨dx,hdx⟩: ∃z,D c=z:=⟨_,rfl⟩
  rw[hdx]at u0 HNX
  obtain⟨cx,cy⟩:=c
  simp only at q0 q1 u0
  have jk:(k:Int)<(n:Int):=by omega
  have HEQ:=fun(w:World)=>bC (cx,cy) (ax,ay) w
  simp only at HEQ
  rw[bB]at HEQ
  clear hdx hkl
  go_upto_region 4 with(fail)
  obtain⟨wb,hwb⟩: ∃z,z=wr.alloc (.cells #[.int .i64 cx, .int .i64 cy] 28):=⟨_,rfl⟩
  have xb:Ext wr wb:=by rw[hwb];exact(Ext.refl _).alloc _
  have CB:=aA (show Blk wb wr.heap.size 28 #[.int .i64 cx, .int .i64 cy] by rw[hwb];exact Blk.new_ rfl)
  have XB:=aA xb
  have BAB:=aA (BAR.out.ext xb)
  have u1:=(xb.cell (p:=⟨ub,uo+k,none⟩) hub).trans u0
  have hubb:ub<wb.heap.size:=by have:=xb.size;omega
  rw[←hwb]
  clear hwb xb u0 q0 q1 hub hrb
  have c0:=CB.out.at 0 rfl;have c1:=CB.out.at 1 rfl;have cz:=CB.out.lt
  have z0:=BAB.out.at 0 rfl;have z1:=BAB.out.at 1 rfl;have zw0:=BAB.out.lt
  by_cases hca:(cx,cy)=(ax,ay)
  ·have hd1:decide ((cx,cy)=(ax,ay))=true:=decide_eq_true hca
   rw[hd1]at HEQ
   have HN2:=aA (show dU D (ax,ay) (C.take (k+1))=dU D (ax,ay) (C.take k) by rw[HNX.out,if_neg (fun h=>h.1 hca),List.append_nil])
   clear hca HNX hd1
   refine aS wb [(0,true),(1,true),(2,true),(3,true),(4,true),(5,true),(6,true),(7,true),(8,true),(9,true),(10,true),(11,true),(12,true),(13,true),(14,true),(15,true),(16,true),(17,true),(18,true),(19,true),(20,true),(21,true)] (fun hK0=> ?_)
   iterate 22 (refine SeqH.fr1 ?_;try simp only[zz])
   refine SeqH.done ?_
   have XE:=aA (XB.out.trans hK0.2)
   clear hK0
   go_wp2_with fail
   go_roundw
   case rel=>exact⟨k+1,T,by omega,by go_num,by rw[HN2.out];exact HE.out _ _ _ _ JR.out XE.out,TR.out,TT.out.trans (Touch.of_ext XE.out)⟩
   simp[intOf];omega
  have hd1:decide ((cx,cy)=(ax,ay))=false:=decide_eq_false hca
  have HCA:=aA hd1
  rw[hd1]at HEQ
  by_cases hdi:dx=18446744073709551615
  ·have HN2:=aA (show dU D (ax,ay) (C.take (k+1))=dU D (ax,ay) (C.take k) by rw[HNX.out,if_neg (fun h=>h.2 hdi),List.append_nil])
   have hd2:(dx !=18446744073709551615)=false:=by simp[hdi]
   clear hca HNX hd1 hdi
   refine aS wb [(0,true),(1,true),(2,true),(3,true),(4,true),(5,true),(6,true),(7,true),(8,true),(9,true),(10,true),(11,true),(12,true),(13,true),(14,true),(15,true),(16,true),(17,true),(18,true),(19,true),(20,true),(21,true)] (fun hK0=> ?_)
   iterate 22 (refine SeqH.fr1 ?_;try simp only[zz])
   refine SeqH.done ?_
   have XE:=aA (XB.out.trans hK0.2)
   clear hK0
   go_wp2_with fail
   go_roundw
   case rel=>exact⟨k+1,T,by omega,by go_num,by rw[HN2.out];exact HE.out _ _ _ _ JR.out XE.out,TR.out,TT.out.trans (Touch.of_ext XE.out)⟩
   simp[intOf];omega
  have HN2:=aA (show dU D (ax,ay) (C.take (k+1))=dU D (ax,ay) (C.take k)++[((cx,cy),dx)] by rw[HNX.out,if_pos ⟨hca,hdi⟩])
  have hd2:(dx !=18446744073709551615)=true:=by simp[hdi]
  have hpre2:dU D (ax,ay) (C.take k)++[((cx,cy),dx)]<+:dU D (ax,ay) C++bH W l G (ax,ay):=by rw[←HN2.out];exact(HPRE.out).trans (List.prefix_append _ _)
  have zwb:=XB.out.size
  have JT:=aA (HN.out _ _ _ _ JR.out XB.out)
  have TR2:=aA (fun j (h1:W0.heap.size≤j) (h2:j<w1.heap.size)=>(show T j∨(wr.heap.size≤j∧j<wb.heap.size) from .inl (TR.out j h1 h2)))
  have SC:Hid (CellsAt [(⟨wr.heap.size,0,none⟩, .int .i64 cx),(⟨wr.heap.size,1,none⟩, .int .i64 cy),(⟨ba,0,none⟩, .int .i64 ax),(⟨ba,1,none⟩, .int .i64 ay),(⟨ub,uo+k,none⟩, .int .u64 dx)] wb):=aA ⟨c0,c1,z0,z1,u1,trivial⟩
  obtain⟨T2,hT2⟩: ∃z:Nat→Prop,z=(fun j=>T j∨(wr.heap.size≤j∧j<wb.heap.size)):=⟨_,rfl⟩
  have HTB:Hid (T2 wr.heap.size):=aA (by rw[hT2];exact .inr ⟨Nat.le_refl _,cz⟩)
  have HTU:Hid (T2 ub):=aA (by rw[hT2];exact .inl (TR.out ub HUB.out.1 HUB.out.2))
  rw[←hT2]at JT
  have TR3:Hid (∀j,W0.heap.size≤j→j<w1.heap.size→T2 j):=aA (by rw[hT2];exact TR2.out)
  obtain⟨fn,tmps,assign,body,hyy,hRR⟩:=HY.out T2 _ ((cx,cy),dx) wb.drew (HE.out _ _ _ _ JT.out ((Ext.refl _).drew)) hpre2
  have HRR:=aA hRR
  unfold cD at hyy
  clear hRR hca HNX hd1 hdi hpre2 HPRE hT2 TR2 JT
  clear HEQ
  have HEQ:=fun(w:World)=>bC (cx,cy) (ax,ay) w
  simp only at HEQ
  rw[bB,HCA.out]at HEQ
  clear c0 c1 z0 z1 u1
  refine(wpIn_wide (n:=4)).1 ?_
  refine uF (S:=(CellsAt [(⟨wr.heap.size,0,none⟩, .int .i64 cx),(⟨wr.heap.size,1,none⟩, .int .i64 cy),(⟨ba,0,none⟩, .int .i64 ax),(⟨ba,1,none⟩, .int .i64 ay),(⟨ub,uo+k,none⟩, .int .u64 dx)])) [(0,true),(1,true),(2,true),(3,true),(4,true),(5,true),(6,true),(7,true),(8,true),(9,true),(10,true),(11,true),(12,true),(13,true),(14,true),(15,true),(16,true),(17,true),(18,true),(19,false),(20,true),(21,true)] (fun _=>trivial) (by kernel_rfl) (by kernel_rfl) (by kernel_rfl) (by kernel_rfl) (by decide) (fun _ _ d _ _ h=>by cases d<;>exact h) (CellsAt.ext ((Ext.refl _).drew) SC.out) (fun hK0=> ?_)
  iterate 19 (refine SeqN.fr2 ?_;try simp only[zz])
  (apply SeqN.step;(·(simp only[z_0,z_1,z_2];rfl));intro K hK;go_simp;gi_wp2_with (refine HRR.out.mono ?_;rintro e w3 ⟨rfl,hJ3,ht3⟩;have J3:=aA hJ3;have T3:=aA (TT.out.trans ((Touch.of_ext (XB.out.trans ((Ext.refl _).drew))).trans (ht3.mono (fun j _ h=>⟨h.2,fun h2=>h.1 (TR3.out j h2.1 h2.2)⟩))));have S3:=aA ((CellsAt.ext ((Ext.refl _).drew) SC.out).touch ht3 (by intro p hp;simp only[List.mem_cons,List.not_mem_nil,or_false]at hp;rcases hp with rfl|rfl|rfl|rfl|rfl;(·exact fun h=>h.1 HTB.out);(·exact fun h=>h.1 HTB.out);(·exact fun h=>h.2 (.inr (.inr rfl)));(·exact fun h=>h.2 (.inr (.inr rfl)));(·exact fun h=>h.1 HTU.out)));clear hJ3 ht3 hyy HRR);refine hK.out _ _ (S3.out) (fun hK0=> ?_);clear hK K;try simp only[zz])
  iterate 2 (refine SeqN.fr2 ?_;try simp only[zz])
  refine SeqN.done ?_
  clear hK0
  go_wp2_with fail
  go_roundw
  case rel=>exact⟨k+1,T2,by omega,by go_num,by rw[HN2.out];exact J3.out,TR3.out,T3.out⟩
  simp[intOf];omega
 obtain rfl:n=k:=by omega
 have J2:Hid (J T (dU D (ax,ay) C++bH W l (G.take 0) (ax,ay)) wr):=aA (by
  have h:=JR.out
  rw[List.take_of_length_le (by rw[HNn.out];exact Nat.le_refl _)]at h
  simpa [bH] using h)
 have LBR:=aA (HLd.out _ XR.out)
 clear hJ hT ht xr ocr odr blr bar JR
 obtain⟨wx,rfl⟩: ∃z,z=wr:=⟨_,rfl⟩
 have b0:=LBR.out.at 0 rfl;have b1:=LBR.out.at 1 rfl;have b2:=LBR.out.at 2 rfl;have b3:=LBR.out.at 3 rfl;have b4:=LBR.out.at 4 rfl;have b5:=LBR.out.at 5 rfl;have b6:=LBR.out.at 6 rfl;have b7:=LBR.out.at 7 rfl;have b8:=LBR.out.at 8 rfl;have b9:=LBR.out.at 9 rfl;have b10:=LBR.out.at 10 rfl;have b11:=LBR.out.at 11 rfl;have bz:=LBR.out.lt
 have y0:=BLR.out.at 0 rfl;have yz:=BLR.out.lt
 go_wp2_with fail
 clear b0 b1 b2 b3 b4 b5 b6 b7 b8 b9 b10 b11 bz y0 yz
 go_loopw [52] (fun iv wr=> ∃(k:Nat) (T:Nat→Prop),k≤m∧iv= .int .i64 (k:Int)∧J T (dU D (ax,ay) C++bH W l (G.take k) (ax,ay)) wr∧(∀j,W0.heap.size≤j→j<w1.heap.size→T j)∧Touch (fun j=> ¬(j<w0.heap.size∨j=bl∨j=ba)∧ ¬(W0.heap.size≤j∧j<w1.heap.size)) w1 wr) (fun iv _=>m-(intOf iv).toNat)
 case atStart=>exact⟨0,T,Nat.zero_le _,rfl,J2.out,TR.out,TT.out⟩
 clear J2 TR TT XR OCR BLR BAR LBR hk hlt
 clear T
 obtain⟨k,T,hk,rfl,hJ,hT,ht⟩:=hrel
 have JR:=aA hJ
 have TR:=aA hT
 have TT:=aA ht
 obtain⟨xr,ocr,odr,blr,bar⟩:=HT1.out _ ht
 have XR:=aA xr
 have BLR:=aA blr
 have BAR:=aA bar
 clear hJ hT ht xr ocr odr blr bar
 by_cases hlt:k<m
 ·obtain⟨g,hg⟩: ∃g,G[k]? =some g:=⟨_,zG (by rw[HM.out];exact hlt)⟩
  have hgm:g∈G:=List.mem_of_getElem? hg
  obtain⟨gb,rfl,hgb,g0,g1,g2,g3⟩:=nS (HLg.out _ XR.out) hg
  have HNX:=aA (aGu (W:=W) (l:=l) (a:=(ax,ay)) hg)
  have HPRE:=aA (aGv W l G (ax,ay) (k+1))
  have HTG:=aA (fun w' x=>HTH.out w' x g hgm)
  have HTC:=aA (aI6 W l (ax,ay) (HGN.out g hgm))
  obtain⟨⟨ux,uy⟩,⟨vx',vy'⟩⟩:=g
  simp only at g0 g1 g2 g3 HTG
  have jk:(k:Int)<(m:Int):=by omega
  clear hg hgm
  go_upto_region 9 with(fail)
  obtain⟨wa,hwa⟩: ∃z,z=wr.alloc (.cells #[.int .i64 ux, .int .i64 uy, .int .i64 vx', .int .i64 vy'] 160):=⟨_,rfl⟩
  have xa:Ext wr wa:=by rw[hwa];exact(Ext.refl _).alloc _
  have GA:=aA (show Blk wa wr.heap.size 160 #[.int .i64 ux, .int .i64 uy, .int .i64 vx', .int .i64 vy'] by rw[hwa];exact Blk.new_ rfl)
  have XA:=aA xa
  have BLA:=aA (BLR.out.ext xa)
  have BAA:=aA (BAR.out.ext xa)
  have HTA:=aA (HTG.out wa (XR.out.trans xa))
  rw[←hwa]
  clear hwa xa g0 g1 g2 g3 hgb HTG
  have g0:=GA.out.at 0 rfl;have g1:=GA.out.at 1 rfl;have g2:=GA.out.at 2 rfl;have g3:=GA.out.at 3 rfl;have gz:=GA.out.lt
  have y0:=BLA.out.at 0 rfl;have yz:=BLA.out.lt
  have z0:=BAA.out.at 0 rfl;have z1:=BAA.out.at 1 rfl;have zw0:=BAA.out.lt
  rcases HTC.out with⟨hz,hv⟩|⟨q,hz,hv,hqa⟩
  ·have HN2:=aA (show bH W l (G.take (k+1)) (ax,ay)=bH W l (G.take k) (ax,ay) by rw[HNX.out,hz,List.append_nil])
   have HTB:=HTA.out
   rw[hv]at HTB
   unfold cD at HTB
   simp only at HTB
   have HTB2:=aA HTB
   have HEQ: ∀w:World,(Op.equalIn 10000 56 (.agg #[.int .i64 0, .int .i64 0, .int .i64 0, .int .i64 0, .int .u64 0]) (.agg #[.int .i64 0, .int .i64 0, .int .i64 0, .int .i64 0, .int .u64 0])).run Tryz.prog w= .ok true w:=fun w=>yQ 9995 0 0 0 0 0 0 0 0 0 0 w
   clear HTB hz hv HNX HPRE HTC HTA
   go_upto_region 10 with(go_at_call 101;refine HTB2.out.mono ?_;rintro e w2 ⟨rfl,x2⟩;have XQ:=aA (XA.out.trans x2);clear x2)
   have XE:=aA (XQ.out.trans ((Ext.refl _).alloc (.cells #[.int .i64 0, .int .i64 0, .int .i64 0, .int .i64 0, .int .u64 0] 56)))
   go_wp2_with fail
   go_roundw
   case rel=>exact⟨k+1,T,by omega,by go_num,by rw[HN2.out];exact HE.out _ _ _ _ JR.out XE.out,TR.out,TT.out.trans (Touch.of_ext XE.out)⟩
   simp[intOf];omega
  obtain⟨⟨tx,ty⟩,qx⟩:=q
  have HN2:=aA (show dU D (ax,ay) C++bH W l (G.take (k+1)) (ax,ay)=(dU D (ax,ay) C++bH W l (G.take k) (ax,ay))++[((tx,ty),qx)] by rw[HNX.out,hz,List.append_assoc])
  have hpre2:(dU D (ax,ay) C++bH W l (G.take k) (ax,ay))++[((tx,ty),qx)]<+:dU D (ax,ay) C++bH W l G (ax,ay):=by rw[←HN2.out];exact(List.prefix_append_right_inj _).2 HPRE.out
  have HPR:=aA hpre2
  have HTB:=HTA.out
  rw[hv]at HTB
  unfold cD at HTB
  simp only at HTB
  have HTB2:=aA HTB
  have hbe:((ax==0&&ay==0)&&((tx==0&&ty==0)&&qx==0))=false:=by
   rw[Bool.eq_false_iff]
   intro hh
   simp only[Bool.and_eq_true,beq_iff_eq]at hh
   exact hqa (by rw[hh.1.1,hh.1.2,hh.2.1.1,hh.2.1.2])
  have HEQ: ∀w:World,(Op.equalIn 10000 56 (.agg #[.int .i64 ax, .int .i64 ay, .int .i64 tx, .int .i64 ty, .int .u64 qx]) (.agg #[.int .i64 0, .int .i64 0, .int .i64 0, .int .i64 0, .int .u64 0])).run Tryz.prog w= .ok false w:=fun w=>by rw[←hbe];exact yQ 9995 ax ay tx ty qx 0 0 0 0 0 w
  clear HTB hz hv HNX HPRE HTC HTA hbe hqa hpre2
  go_upto_region 10 with(go_at_call 101;refine HTB2.out.mono ?_;rintro e w2 ⟨rfl,x2⟩;have XQ:=aA (XA.out.trans x2);clear x2)
  obtain⟨wq,hwq⟩: ∃z,z=w2.alloc (.cells #[.int .i64 ax, .int .i64 ay, .int .i64 tx, .int .i64 ty, .int .u64 qx] 56):=⟨_,rfl⟩
  have LQ:=aA (show Blk wq w2.heap.size 56 #[.int .i64 ax, .int .i64 ay, .int .i64 tx, .int .i64 ty, .int .u64 qx] by rw[hwq];exact Blk.new_ rfl)
  have XE:=aA (show Ext wr wq by rw[hwq];exact XQ.out.trans ((Ext.refl _).alloc _))
  rw[←hwq]
  clear hwq g0 g1 g2 g3 gz y0 yz z0 z1 zw0
  have q0:=LQ.out.at 0 rfl;have q1:=LQ.out.at 1 rfl;have q2:=LQ.out.at 2 rfl;have q3:=LQ.out.at 3 rfl;have q4:=LQ.out.at 4 rfl;have qz:=LQ.out.lt
  obtain⟨fn,tmps,assign,body,hyy,hRR⟩:=HY.out T _ ((tx,ty),qx) wq (HE.out _ _ _ _ JR.out XE.out) HPR.out
  have HRR:=aA hRR
  unfold cD at hyy
  clear hRR
  refine(wpIn_wide (n:=4)).1 ?_
  gi_wp2_with (refine HRR.out.mono ?_;rintro e w3 ⟨rfl,hJ3,ht3⟩;have J3:=aA hJ3;have T3:=aA (TT.out.trans ((Touch.of_ext XE.out).trans (ht3.mono (fun j _ h=>⟨h.2,fun h2=>h.1 (TR.out j h2.1 h2.2)⟩))));clear hJ3 ht3 hyy HRR)
  go_wp2_with fail
  go_roundw
  case rel=>exact⟨k+1,T,by omega,by go_num,by rw[HN2.out];exact J3.out,TR.out,T3.out⟩
  simp[intOf];omega
 obtain rfl:m=k:=by omega
 have J4:Hid (J T (dU D (ax,ay) C++bH W l G (ax,ay)) wr):=aA (by
  have h:=JR.out
  rw[List.take_of_length_le (by rw[HM.out];exact Nat.le_refl _)]at h
  exact h)
 go_wp2_with fail
 go_end0
 exact⟨⟨_,rfl⟩,T,J4.out⟩
end
end Go.Proofs.YtaellcgglldjaaaGreat

namespace Go.Proofs.YtaellcgglldjaaaGreat
open Go.RowKit
attribute [local go_sem] Oper.semAt_some
theorem IterN.ext {α:Type} {P:Program} {gf:Nat} {lb:Array Value} {encs:α→Array Value} {xs:List α} {R:Nat→Prop} {w w':World} (h:IterN P gf lb encs xs R w) (x:Ext w w'):IterN P gf lb encs xs R w':=
 fun l J W hx=>h l J W (x.trans hx)
section
variable {w:World} {p:Spot} {R:Nat→Prop} {W H s:Int} {l:List Int}
theorem aEs {α:Type} (E:Enc α) (w:World):Reads E w (.slice none 0 0) []:= .inl ⟨rfl,rfl⟩
end
end Go.Proofs.YtaellcgglldjaaaGreat

namespace Go.Proofs.YtaellcgglldjaaaGreat
open Go.RowKit
section
variable {w:World} {p:Spot} {R:Nat→Prop} {W H s:Int} {l:List Int}
theorem aGw {f t a:aB} (g:Good W H s l):(cB W H s l (aD W H s l) f t a).length≤l.length+(aD W H s l).length:=by
 unfold cB bL bH
 rw[List.length_append,List.length_map]
 have h1:(aN W H (aD W H s l) f t).length≤l.length:=by
  have hn:(aN W H (aD W H s l) f t).Nodup:=mO (lL _ _ _ _ _)
  have h2:((aN W H (aD W H s l) f t).map (aC W)).Nodup:=by
   unfold List.Nodup
   rw[List.pairwise_map]
   refine List.Pairwise.imp_of_mem (fun {a b} ha hb hne e=>hne ?_) hn
   exact oC (dJ g ha) (dJ g hb) e
  have h3:=fR h2 (n:=l.length) (fun v hv=>by
   obtain⟨c,hc,rfl⟩:=List.mem_map.1 hv
   exact iW (checkE_ok.1 g.ok).2 (dJ g hc))
  simpa using h3
 have h4:=List.length_filter_le (fun c=>decide (ofN W s c.1 c.2=ofN W s a.1 a.2)&&(!(decide (c=a))&& !(decide (cA W H s l a c=aJ)))) (aN W H (aD W H s l) f t)
 have h5:((aD W H s l).flatMap (gL W l a)).length≤(aD W H s l).length:=by
  generalize aD W H s l=G
  induction G with
  |nil=>simp
  |cons g G ih=>
   rw[List.flatMap_cons,List.length_append,List.length_cons]
   have:(gL W l a g).length≤1:=by
    unfold gL
    split
    ·simp
    split<;>simp
   omega
 omega
end
end Go.Proofs.YtaellcgglldjaaaGreat

namespace Go.Proofs.YtaellcgglldjaaaGreat
open Go.RowKit
theorem aJ3 (k:Nat) (hk:k<4) (w:World):Calls Tryz.prog 181 #[.int .i64 (k:Int)] w fun e w'=>e= .returned (.agg #[.int .i64 (aU k), .int .i64 (aV k)])∧Ext w w':=by
 obtain rfl|rfl|rfl|rfl:k=0∨k=1∨k=2∨k=3:=by omega
 ·go_enter Tryz.func181,Tryz.ntmps181
  go_wp2
  exact bodyPost_ret (v:= .agg #[.int .i64 0, .int .i64 (-1)]) (by simp[results,Tryz.results181,go_sem, *]) rfl ⟨rfl,z_x⟩
 ·go_enter Tryz.func181,Tryz.ntmps181
  go_wp2
  exact bodyPost_ret (v:= .agg #[.int .i64 1, .int .i64 0]) (by simp[results,Tryz.results181,go_sem, *]) rfl ⟨rfl,z_x⟩
 ·go_enter Tryz.func181,Tryz.ntmps181
  go_wp2
  exact bodyPost_ret (v:= .agg #[.int .i64 0, .int .i64 1]) (by simp[results,Tryz.results181,go_sem, *]) rfl ⟨rfl,z_x⟩
 go_enter Tryz.func181,Tryz.ntmps181
 go_wp2
 exact bodyPost_ret (v:= .agg #[.int .i64 (-1), .int .i64 0]) (by simp[results,Tryz.results181,go_sem, *]) rfl ⟨rfl,z_x⟩
theorem aG8 (k:Nat) (hk:k<4) (x y:Int) (hx: -1000000≤x∧x≤1000000) (hy: -1000000≤y∧y≤1000000) (w:World):Calls Tryz.prog 157 #[.agg #[.int .i64 x, .int .i64 y], .int .i64 (k:Int)] w fun e w'=>e= .returned (.agg #[.int .i64 (x+aU k), .int .i64 (y+aV k)])∧Ext w w':=by
 have H1:=aA (fun w'=>aJ3 k hk w')
 have hb:=pX k
 generalize aU k=dx at *
 generalize aV k=dy at *
 clear hk
 go_enter Tryz.func157,Tryz.ntmps157
 go_wp2_with (go_at_call 181;refine(H1.out _).mono ?_;rintro e w1 ⟨rfl,hb1⟩;obtain⟨hc1,hf1⟩:=hb1.cells;have hz1:=hb1.size;(try simp only[zS]at hz1);have z1_0:w.heap.size<w1.heap.size:=(by omega);have z1_1:w.heap.size+1<w1.heap.size:=(by omega))
 exact bodyPost_ret (v:= .agg #[.int .i64 (x+dx), .int .i64 (y+dy)]) (by simp[results,Tryz.results157,go_sem, *]) rfl ⟨rfl,z_x⟩
theorem aBj (x y:Int) (w:World):Calls Tryz.prog 112 #[.agg #[.int .i64 x, .int .i64 y]] w fun e w'=>e= .returned (.func (.func 156) #[] #[.pointer (some ⟨w.heap.size,0,none⟩)])∧w'=w.alloc (.cells #[.int .i64 x, .int .i64 y] 28):=by
 go_enter Tryz.func112,Tryz.ntmps112
 go_wp2
 go_ret
 exact⟨rfl,rfl⟩
def fF (x y:Int):List (Int×aB):=(List.range 4).map fun k:Nat=>((k:Int),(x+aU k,y+aV k))
theorem mY (x y:Int):(fF x y).length=4:=by simp[fF]
theorem aJ0 (x y:Int) {k:Nat} (hk:k<4):(fF x y)[k]? =some ((k:Int),(x+aU k,y+aV k)):=by
 unfold fF
 rw[List.getElem?_map,List.getElem?_range hk]
 rfl
theorem tI (x y:Int) {k:Nat} (hk:k<4):(fF x y).take (k+1)=(fF x y).take k++[((k:Int),(x+aU k,y+aV k))]:=by
 have h:=aJ0 x y hk
 have hl:k<(fF x y).length:=by rw[mY];exact hk
 rw[List.take_add_one,h]
 rfl
def dcV (q:Int×aB):Array Value:= #[.int .i64 q.1, .agg #[.int .i64 q.2.1, .int .i64 q.2.2]]
theorem xD {w:World} {x y:Int} (hx: -1000000≤x∧x≤1000000) (hy: -1000000≤y∧y≤1000000) {bc:Nat} {R:Nat→Prop} (B:Blk w bc 28 #[.int .i64 x, .int .i64 y]) (Rb:R bc) (hR: ∀k,R k→k<w.heap.size):
  qR Tryz.prog 156 #[.pointer (some ⟨bc,0,none⟩)] dcV (fF x y) R w:=by
 intro lp J W0 hx0 hA hE hS hY hJ0
 have HE:=aA hE
 have HY:=aA hY
 have HJ0:=aA hJ0
 have B0:=aA (B.ext hx0)
 have zbc:=B0.out.lt
 clear hA hE hS hY hJ0 B hR hx0
 show Calls Tryz.prog 156 #[.func (.yield lp) #[] #[], .pointer (some ⟨bc,0,none⟩)] W0 _
 go_enter Tryz.func156,Tryz.ntmps156
 go_wp2
 go_loopw [3] (fun s3 wr=> ∃(k:Nat) (T:Nat→Prop),k≤4∧s3= .int .i64 (k:Int)∧J T ((fF x y).take k) wr∧Touch (fun j=> ¬R j) W0 wr) (fun s3 _=>4-(intOf s3).toNat)
 case atStart=>exact⟨0,fun _=>False,by omega,rfl,HJ0.out,Touch.refl _ _⟩
 obtain⟨k,T,hk,rfl,hJ,ht⟩:=hrel
 have J1:=aA hJ
 have T1:=aA ht
 have B1:=aA (B0.out.touch ht (fun h=>h Rb))
 have q0:=B1.out.at 0 rfl;have q1:=B1.out.at 1 rfl;have qz:=B1.out.lt
 clear hJ ht
 by_cases hlt:k<4
 ·have HN:=aA (fun w'=>aG8 k hlt x y hx hy w')
  have hd:decide ((k:Int)≤3)=true:=by simp;omega
  have hpre:(fF x y).take k++[((k:Int),(x+aU k,y+aV k))]<+:fF x y:=by rw[←tI x y hlt];exact List.take_prefix _ _
  have HPRE:=aA hpre
  clear hpre
  refine(wpIn_wide (n:=4)).1 ?_
  gi_wp2_with (first
   |(refine⟨trivial,?_⟩;gi_at_call 157;refine(callsIn_wide.2 (HN.out _)).mono ?_;rintro e w2 ⟨rfl,hb2⟩;obtain⟨fn,tmps,assign,body,hyy,hRR⟩:=HY.out T _ _ w2 (HE.out _ _ _ _ J1.out hb2) HPRE.out;have HRR:=aA hRR;have HB2:=aA hb2;clear hRR hb2;unfold dcV at hyy)
   |(refine HRR.out.mono ?_;rintro e w3 ⟨rfl,hJ3,ht3⟩;have J3:=aA hJ3;have T3:=aA (T1.out.trans ((Touch.of_ext HB2.out).trans (ht3.mono (fun j _ h=>h.2))));clear hJ3 ht3 hyy HRR))
  go_roundw
  case rel=>exact⟨k+1,T,by omega,by go_num,by rw[tI x y hlt];exact J3.out,T3.out⟩
  simp[intOf];omega
 obtain rfl:k=4:=by omega
 have J4:Hid (J T (fF x y) wr):=aA (by
  have h:=J1.out
  rw[List.take_of_length_le (by rw[mY];exact Nat.le_refl _)]at h
  exact h)
 clear J1
 go_wp2_with fail
 go_end0
 exact⟨⟨_,rfl⟩,T,J4.out⟩
end Go.Proofs.YtaellcgglldjaaaGreat

