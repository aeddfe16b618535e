/- Part of a proof: HierK StarG. -/
import Derived.Test.YtaellcgglldjaaaGreatHq32
import Derived.Test.YtaellcgglldjaaaGreatHq33
import Derived.Stop.RegionWithIn
import Derived.Test.YtaellcgglldjaaaGreatHq25
set_option linter.all false
set_option linter.unusedVariables false
set_option linter.unusedSimpArgs false
namespace Go.Proofs.YtaellcgglldjaaaGreat
open Go.RowKit
attribute [local go_sem] Oper.semAt_some
theorem aKs:Tryz.prog.underlying 56=some (.struct (Tryz.prog.fieldsOf 56)):=by kernel_rfl
theorem aGp:Tryz.prog.stoodInHeld 56=false:=by kernel_rfl
theorem xN (d:Nat) (a b a2 b2 x c e c2 e2 y:Int) (w:World):(Op.equalIn (d+5) 56 (.agg #[.int .i64 a, .int .i64 b, .int .i64 a2, .int .i64 b2, .int .u64 x]) (.agg #[.int .i64 c, .int .i64 e, .int .i64 c2, .int .i64 e2, .int .u64 y])).run Tryz.prog w= .ok ((a==c&&b==e)&&((a2==c2&&b2==e2)&&x==y)) w:=by
 rw[run_equalIn_struct w (d+4) 56 _ _ aKs aGp]
 have h1:=jX (d+1) a b c e
 have h2:=jX (d+1) a2 b2 c2 e2
 cases h:(a==c&&b==e)<;>cases h':(a2==c2&&b2==e2)<;>cases h3:x==y<;>simp[go_sem,h1,h2,h,h',h3]
def dL (D:aB→Int) (a:aB) (C:List aB):List (aB×Int):=(C.filter fun c=> !(decide (c=a))&& !(decide (D c=aE))).map fun c=>(c,D c)
theorem aI1 (W H s:Int) (l:List Int) (G:List (aB×aB)) (f t a:aB):kB W H s l (cE W H G f t) a=dL (cI W H s l a) a (inC W H s G f t (ofN W s a.1 a.2)):=by
 unfold kB dL inC
 rw[List.filter_filter]
 congr 1
 refine List.filter_congr fun c _=> ?_
 rw[Bool.and_comm]
theorem aFc {D:aB→Int} {a c:aB} {C:List aB} {k:Nat} (h:C[k]? =some c):dL D a (C.take (k+1))=dL D a (C.take k)++(if c≠a∧D c≠aE then[(c,D c)] else[]):=by
 unfold dL
 rw[List.take_add_one,h,List.filter_append,List.map_append]
 congr 1
 by_cases h1:c=a
 ·simp[h1]
 ·by_cases h2:D c=aE
  ·simp[h1,h2]
  ·simp[h1,h2]
theorem aI0 (D:aB→Int) (a:aB) (C:List aB) (k:Nat):dL D a (C.take k)<+:dL D a C:=by
 have h:C=C.take k++C.drop k:=(List.take_append_drop k C).symm
 refine⟨dL D a (C.drop k),?_⟩
 unfold dL
 rw[←List.map_append,←List.filter_append,←h]
theorem aFd {W:Int} {l:List Int} {G:List (aB×aB)} {a:aB} {k:Nat} {g:aB×aB} (h:G[k]? =some g):dI W l (G.take (k+1)) a=dI W l (G.take k) a++mN W l a g:=by
 unfold dI
 rw[List.take_add_one,h,List.flatMap_append]
 simp
theorem aFe (W:Int) (l:List Int) (G:List (aB×aB)) (a:aB) (k:Nat):dI W l (G.take k) a<+:dI W l G a:=by
 have h:G=G.take k++G.drop k:=(List.take_append_drop k G).symm
 refine⟨dI W l (G.drop k) a,?_⟩
 unfold dI
 rw[←List.flatMap_append,←h]
theorem aGt (W:Int) (l:List Int) (a:aB) {g:aB×aB} (hne:g.1≠g.2):(mN W l a g=[]∧oJ W l g a=bX (0,0) (0,0) 0)∨ ∃q:aB×Int,mN W l a g=[q]∧oJ W l g a=bX a q.1 q.2∧q.1≠a:=by
 unfold mN oJ
 by_cases h1:g.1=a
 ·rw[if_pos h1,if_pos h1]
  exact .inr ⟨_,rfl,rfl,fun e=>hne (h1.trans e.symm)⟩
 ·rw[if_neg h1,if_neg h1]
  by_cases h2:g.2=a
  ·rw[if_pos h2,if_pos h2]
   exact .inr ⟨_,rfl,rfl,fun e=>h1 e⟩
  ·rw[if_neg h2,if_neg h2]
   exact .inl ⟨rfl,rfl⟩
section
variable {w0 w:World} {lb:Nat} {p:Spot} {R0:Nat→Prop} {W H s:Int} {l:List Int} {fa:Option Addr} {fc:Nat} {ga:Option Addr} {gc:Nat} {f t:aB}
theorem aAo (a:aB) (w:World):Calls Tryz.prog 53 #[.pointer (some ⟨lb,0,none⟩), .agg #[.int .i64 a.1, .int .i64 a.2]] w fun e w'=>e= .returned (.func (.func 99) #[] #[.pointer (some ⟨w.heap.size,0,none⟩), .pointer (some ⟨w.heap.size+1,0,none⟩)])∧w'=(w.alloc (.cells #[.pointer (some ⟨lb,0,none⟩)] 98)).alloc (.cells #[.int .i64 a.1, .int .i64 a.2] 28):=by
 obtain⟨ax,ay⟩:=a
 go_enter Tryz.func53,Tryz.ntmps53
 go_wp2
 go_ret
 exact⟨rfl,rfl⟩
set_option maxRecDepth 100000 in
set_option maxHeartbeats 2000000 in
theorem yD (h:HLand w0 lb p R0 W H s l fa fc ga gc f t) (hx:Ext w0 w) (hgl:(aI W H s l).length≤45000) {a:aB} (ha:inB W H a.1 a.2=true) {bl ba:Nat} (Bl:Blk w bl 98 #[.pointer (some ⟨lb,0,none⟩)]) (Ba:Blk w ba 28 #[.int .i64 a.1, .int .i64 a.2]):
  IterN Tryz.prog 99 #[.pointer (some ⟨bl,0,none⟩), .pointer (some ⟨ba,0,none⟩)] (fun q:aB×Int=> #[bX a q.1 q.2]) (cO W H s l (aI W H s l) f t a) (fun k=>k<w0.heap.size∨k=bl∨k=ba) w:=by
 intro lp J W0 hx0 hA hE hN hS hY hJ0
 have HE:=aA hE
 have HN:=aA hN
 have HY:=aA hY
 have HJ0:=aA hJ0
 have X0:=aA (hx.trans hx0)
 have BL0:=aA (Bl.ext hx0)
 have BA0:=aA (Ba.ext hx0)
 have HLd:=aA (fun(w':World) (x:Ext w0 w')=>(h.ext x).blk)
 have HLg:=aA (fun(w':World) (x:Ext w0 w')=>(h.ext x).gates)
 have HW:=aA (aDr (h.ext X0.out) ha)
 have HTH:=aA (fun(w':World) (x:Ext w0 w') (g:aB×aB) (hg:g∈aI W H s l)=>(by obtain⟨_,_,_,_,_,_,h1,h2,_⟩:=eU h.good.right hg;exact aB5 (h.ext x) g a h1 h2:Calls Tryz.prog 101 #[.pointer (some ⟨lb,0,none⟩), .agg #[.int .i64 g.1.1, .int .i64 g.1.2, .int .i64 g.2.1, .int .i64 g.2.2], .agg #[.int .i64 a.1, .int .i64 a.2]] w' fun e w''=>e= .returned (oJ W l g a)∧Ext w' w''))
 have HGN:=aA (fun(g:aB×aB) (hg:g∈aI W H s l)=>(show g.1≠g.2 from fun e=>by
  obtain⟨x,y,_,hxy,_,_,_,_,o1,o2,_⟩:=eU h.good.right hg
  rw[e]at o1
  omega))
 have zw0:=X0.out.size
 unfold cO at HY⊢
 rw[aI1]at HY⊢
 unfold wO at HW
 obtain⟨ax,ay⟩:=a
 simp only at HW HTH BA0 HY⊢
 obtain⟨D,hD⟩: ∃z,cI W H s l (ax,ay)=z:=⟨_,rfl⟩
 obtain⟨C,hC⟩: ∃z,inC W H s (aI W H s l) f t (ofN W s ax ay)=z:=⟨_,rfl⟩
 have HCL:Hid (C.length≤300):=aA (by rw[←hC];have:=tS h.good (dE h.good.right ha) (f:=f) (t:=t);simp only at this;omega)
 rw[hD,hC]at HW HY⊢
 obtain⟨G,hG⟩: ∃z,aI W H s l=z:=⟨_,rfl⟩
 rw[hG]at HTH HGN HLd HLg hgl HY⊢
 unfold dV at HLd
 obtain⟨nl,hnl⟩: ∃z,l.length=z:=⟨_,rfl⟩
 rw[hnl]at HLd
 obtain⟨m,hm⟩: ∃z,G.length=z:=⟨_,rfl⟩
 have HM:=aA hm
 rw[hm]at HLd HLg hgl
 obtain⟨n,hn⟩: ∃z,C.length=z:=⟨_,rfl⟩
 have HNn:=aA hn
 have hn3:n≤300:=by have:=HCL.out;omega
 rw[hn]at HW
 obtain⟨pb,hpb⟩: ∃z,p.b=z:=⟨_,rfl⟩
 rw[hpb]at HLd
 clear hA hE hN hS hY hJ0 h hx Bl Ba hx0 hD hC hG hnl hm hn hpb HCL ha
 show Calls Tryz.prog 99 #[.func (.yield lp) #[] #[], .pointer (some ⟨bl,0,none⟩), .pointer (some ⟨ba,0,none⟩)] W0 _
 have c0:=BL0.out.at 0 rfl;have cz:=BL0.out.lt
 have d0:=BA0.out.at 0 rfl;have d1:=BA0.out.at 1 rfl;have dz:=BA0.out.lt
 go_enter Tryz.func99,Tryz.ntmps99
 go_wp2_with fail
 refine(HW.out).mono ?_
 rintro e w1 ⟨va,sb,sc,rfl,x1,oc,od⟩
 obtain⟨ca,cc,rfl⟩:=oc.slice
 rw[HNn.out]at oc⊢
 have OC:=aA oc
 have OD:=aA od
 have X1:=aA (X0.out.trans x1)
 have BL1:=aA (BL0.out.ext x1)
 have BA1:=aA (BA0.out.ext x1)
 have J1:=aA (HN.out _ _ _ _ HJ0.out x1)
 have zs1:=x1.size
 have HT1:=aA (fun(wr:World) (tt:Touch (fun j=> ¬(j<w0.heap.size∨j=bl∨j=ba)∧ ¬(W0.heap.size≤j∧j<w1.heap.size)) w1 wr)=>(show Ext w0 wr∧Own cellE wr W0.heap.size 28 (.slice ca n cc) C∧Own u64E wr W0.heap.size 38 (.slice sb n sc) (C.map D)∧Blk wr bl 98 #[.pointer (some ⟨lb,0,none⟩)]∧Blk wr ba 28 #[.int .i64 ax, .int .i64 ay] from
  ⟨((Touch.of_ext (S:=fun _=>False) X1.out).after tt (fun k hk hS=>hS.1 (.inl hk))).ext,OC.out.touch tt (fun k hk hS=>hS.2 (aK OC.out hk)),OD.out.touch tt (fun k hk hS=>hS.2 (aK OD.out hk)),BL1.out.touch tt (fun hS=>hS.1 (.inr (.inl rfl))),BA1.out.touch tt (fun hS=>hS.1 (.inr (.inr rfl)))⟩))
 clear c0 cz d0 d1 dz oc od x1 HJ0 HW BL0 BA0
 go_wp2_with fail
 go_loopw [19] (fun iv wr=> ∃(k:Nat) (T:Nat→Prop),k≤n∧iv= .int .i64 (k:Int)∧J T (dL D (ax,ay) (C.take k)) wr∧(∀j,W0.heap.size≤j→j<w1.heap.size→T j)∧Touch (fun j=> ¬(j<w0.heap.size∨j=bl∨j=ba)∧ ¬(W0.heap.size≤j∧j<w1.heap.size)) w1 wr) (fun iv _=>n-(intOf iv).toNat)
 case atStart=>exact⟨0,_,Nat.zero_le _,rfl,J1.out,(fun j h1 h2=> .inr ⟨h1,h2⟩),Touch.refl _ _⟩
 case round=>
  obtain⟨k,T,hk,rfl,hJ,hT,ht⟩:=hrel
  have JR:=aA hJ
  have TR:=aA hT
  have TT:=aA ht
  obtain⟨xr,ocr,odr,blr,bar⟩:=HT1.out _ ht
  have XR:=aA xr
  have OCR:=aA ocr
  have BLR:=aA blr
  have BAR:=aA bar
  by_cases hlt:k<n
  ·have hkl:k<C.length:=by rw[HNn.out];exact hlt
   obtain⟨rb,ro,hre,hrb,q0,q1⟩:=mF ocr.reads (List.getElem?_eq_getElem hkl)
   subst hre
   have hru:=(Reads.rowU odr.reads).2
   obtain⟨ub,uo,hue,hub,huc⟩:=hru (by simp;omega)
   subst hue
   have HUB:=aA (aK OD.out (k:=ub) rfl)
   have u0:=huc k (by simp;omega)
   simp only[List.getElem_map]at u0
   have HNX:=aA (aFc (D:=D) (a:=(ax,ay)) (List.getElem?_eq_getElem hkl))
   have HPRE:=aA (aI0 D (ax,ay) C (k+1))
   clear hJ hT ht xr ocr odr blr bar huc hru
   generalize C[k]=c at *
   obtain⟨dx,hdx⟩: ∃z,D c=z:=⟨_,rfl⟩
   rw[hdx]at u0 HNX
   obtain⟨cx,cy⟩:=c
   simp only at q0 q1 u0
   have jk:(k:Int)<(n:Int):=by omega
   have HEQ:=fun(w:World)=>bJ (cx,cy) (ax,ay) w
   simp only at HEQ
   rw[aX]at HEQ
   clear hdx hkl
   go_upto_region 4 with(fail)
   obtain⟨wb,hwb⟩: ∃z,z=wr.alloc (.cells #[.int .i64 cx, .int .i64 cy] 28):=⟨_,rfl⟩
   have xb:Ext wr wb:=by rw[hwb];exact(Ext.refl _).alloc _
   have CB:=aA (show Blk wb wr.heap.size 28 #[.int .i64 cx, .int .i64 cy] by rw[hwb];exact Blk.new_ rfl)
   have XB:=aA xb
   have BAB:=aA (BAR.out.ext xb)
   have u1:=(xb.cell (p:=⟨ub,uo+k,none⟩) hub).trans u0
   have hubb:ub<wb.heap.size:=by have:=xb.size;omega
   rw[←hwb]
   clear hwb xb u0 q0 q1 hub hrb
   have c0:=CB.out.at 0 rfl;have c1:=CB.out.at 1 rfl;have cz:=CB.out.lt
   have z0:=BAB.out.at 0 rfl;have z1:=BAB.out.at 1 rfl;have zz:=BAB.out.lt
   by_cases hca:(cx,cy)=(ax,ay)
   ·have hd1:decide ((cx,cy)=(ax,ay))=true:=decide_eq_true hca
    rw[hd1]at HEQ
    have HN2:=aA (show dL D (ax,ay) (C.take (k+1))=dL D (ax,ay) (C.take k) by rw[HNX.out,if_neg (fun h=>h.1 hca),List.append_nil])
    clear hca HNX hd1
    refine aJ (S:=(fun W=>(∀b o,b<wb.heap.size→W.cell? ⟨b,o,none⟩=wb.cell? ⟨b,o,none⟩)∧Ext wb W)) [(0,true),(1,true),(2,true),(3,true),(4,true),(5,true),(6,true),(7,true),(8,true),(9,true),(10,true),(11,true),(12,true),(13,true),(14,true),(15,true),(16,true),(17,true),(18,true),(19,true),(20,true),(21,true)] (by kernel_rfl) (by kernel_rfl) (by kernel_rfl) (by decide) (fun _ _ d _ _ h=>by cases d<;>exact h) (by first|with_reducible exact aM _|exact aG z_x) (fun hHeld=> ?_)
    iterate 22 (refine SeqH.fr1 ?_;try simp only[Act.put,z_3,z_4,z_5])
    refine SeqH.done ?_
    have XE:=aA (XB.out.trans hHeld.2)
    clear hHeld
    go_wp2_with fail
    go_roundw
    case rel=>exact⟨k+1,T,by omega,by go_num,by rw[HN2.out];exact HE.out _ _ _ _ JR.out XE.out,TR.out,TT.out.trans (Touch.of_ext XE.out)⟩
    case measure=>simp[intOf];omega
   ·have hd1:decide ((cx,cy)=(ax,ay))=false:=decide_eq_false hca
    have HCA:=aA hd1
    rw[hd1]at HEQ
    by_cases hdi:dx=18446744073709551615
    ·have HN2:=aA (show dL D (ax,ay) (C.take (k+1))=dL D (ax,ay) (C.take k) by rw[HNX.out,if_neg (fun h=>h.2 hdi),List.append_nil])
     have hd2:(dx !=18446744073709551615)=false:=by simp[hdi]
     clear hca HNX hd1 hdi
     refine aJ (S:=(fun W=>(∀b o,b<wb.heap.size→W.cell? ⟨b,o,none⟩=wb.cell? ⟨b,o,none⟩)∧Ext wb W)) [(0,true),(1,true),(2,true),(3,true),(4,true),(5,true),(6,true),(7,true),(8,true),(9,true),(10,true),(11,true),(12,true),(13,true),(14,true),(15,true),(16,true),(17,true),(18,true),(19,true),(20,true),(21,true)] (by kernel_rfl) (by kernel_rfl) (by kernel_rfl) (by decide) (fun _ _ d _ _ h=>by cases d<;>exact h) (by first|with_reducible exact aM _|exact aG z_x) (fun hHeld=> ?_)
     iterate 22 (refine SeqH.fr1 ?_;try simp only[Act.put,z_3,z_4,z_5])
     refine SeqH.done ?_
     have XE:=aA (XB.out.trans hHeld.2)
     clear hHeld
     go_wp2_with fail
     go_roundw
     case rel=>exact⟨k+1,T,by omega,by go_num,by rw[HN2.out];exact HE.out _ _ _ _ JR.out XE.out,TR.out,TT.out.trans (Touch.of_ext XE.out)⟩
     case measure=>simp[intOf];omega
    ·have HN2:=aA (show dL D (ax,ay) (C.take (k+1))=dL D (ax,ay) (C.take k)++[((cx,cy),dx)] by rw[HNX.out,if_pos ⟨hca,hdi⟩])
     have hd2:(dx !=18446744073709551615)=true:=by simp[hdi]
     have hpre2:dL D (ax,ay) (C.take k)++[((cx,cy),dx)]<+:dL D (ax,ay) C++dI W l G (ax,ay):=by rw[←HN2.out];exact(HPRE.out).trans (List.prefix_append _ _)
     have zwb:=XB.out.size
     have JT:=aA (HN.out _ _ _ _ JR.out XB.out)
     have TR2:=aA (fun j (h1:W0.heap.size≤j) (h2:j<w1.heap.size)=>(show T j∨(wr.heap.size≤j∧j<wb.heap.size) from .inl (TR.out j h1 h2)))
     have SC:Hid (CellsAt [(⟨wr.heap.size,0,none⟩, .int .i64 cx),(⟨wr.heap.size,1,none⟩, .int .i64 cy),(⟨ba,0,none⟩, .int .i64 ax),(⟨ba,1,none⟩, .int .i64 ay),(⟨ub,uo+k,none⟩, .int .u64 dx)] wb):=aA ⟨c0,c1,z0,z1,u1,trivial⟩
     obtain⟨T2,hT2⟩: ∃z:Nat→Prop,z=(fun j=>T j∨(wr.heap.size≤j∧j<wb.heap.size)):=⟨_,rfl⟩
     have HTB:Hid (T2 wr.heap.size):=aA (by rw[hT2];exact .inr ⟨Nat.le_refl _,cz⟩)
     have HTU:Hid (T2 ub):=aA (by rw[hT2];exact .inl (TR.out ub HUB.out.1 HUB.out.2))
     rw[←hT2]at JT
     have TR3:Hid (∀j,W0.heap.size≤j→j<w1.heap.size→T2 j):=aA (by rw[hT2];exact TR2.out)
     obtain⟨fn,tmps,assign,body,hyy,hRR⟩:=HY.out T2 _ ((cx,cy),dx) wb.drew (HE.out _ _ _ _ JT.out ((Ext.refl _).drew)) hpre2
     have HRR:=aA hRR
     unfold bX at hyy
     clear hRR hca HNX hd1 hdi hpre2 HPRE hT2 TR2 JT
     clear HEQ
     have HEQ:=fun(w:World)=>bJ (cx,cy) (ax,ay) w
     simp only at HEQ
     rw[aX,HCA.out]at HEQ
     clear c0 c1 z0 z1 u1
     refine(wpIn_wide (n:=4)).1 ?_
     refine tB (S:=(CellsAt [(⟨wr.heap.size,0,none⟩, .int .i64 cx),(⟨wr.heap.size,1,none⟩, .int .i64 cy),(⟨ba,0,none⟩, .int .i64 ax),(⟨ba,1,none⟩, .int .i64 ay),(⟨ub,uo+k,none⟩, .int .u64 dx)])) [(0,true),(1,true),(2,true),(3,true),(4,true),(5,true),(6,true),(7,true),(8,true),(9,true),(10,true),(11,true),(12,true),(13,true),(14,true),(15,true),(16,true),(17,true),(18,true),(19,false),(20,true),(21,true)] (fun _=>trivial) (by kernel_rfl) (by kernel_rfl) (by kernel_rfl) (by kernel_rfl) (by decide) (fun _ _ d _ _ h=>by cases d<;>exact h) (CellsAt.ext ((Ext.refl _).drew) SC.out) (fun hHeld=> ?_)
     iterate 19 (refine SeqN.fr2 ?_;try simp only[Act.put,z_3,z_4,z_5])
     (apply SeqN.step;(·(simp only[z_0,z_1,z_2];rfl));intro K hK;go_simp;gi_wp2_with (refine HRR.out.mono ?_;rintro e w3 ⟨rfl,hJ3,ht3⟩;have J3:=aA hJ3;have T3:=aA (TT.out.trans ((Touch.of_ext (XB.out.trans ((Ext.refl _).drew))).trans (ht3.mono (fun j _ h=>⟨h.2,fun h2=>h.1 (TR3.out j h2.1 h2.2)⟩))));have S3:=aA ((CellsAt.ext ((Ext.refl _).drew) SC.out).touch ht3 (by intro p hp;simp only[List.mem_cons,List.not_mem_nil,or_false]at hp;rcases hp with rfl|rfl|rfl|rfl|rfl;(·exact fun h=>h.1 HTB.out);(·exact fun h=>h.1 HTB.out);(·exact fun h=>h.2 (.inr (.inr rfl)));(·exact fun h=>h.2 (.inr (.inr rfl)));(·exact fun h=>h.1 HTU.out)));clear hJ3 ht3 hyy HRR);refine hK.out _ _ (S3.out) (fun hHeld=> ?_);clear hK K;try simp only[Act.put,z_3,z_4,z_5])
     iterate 2 (refine SeqN.fr2 ?_;try simp only[Act.put,z_3,z_4,z_5])
     refine SeqN.done ?_
     clear hHeld
     go_wp2_with fail
     go_roundw
     case rel=>exact⟨k+1,T2,by omega,by go_num,by rw[HN2.out];exact J3.out,TR3.out,T3.out⟩
     case measure=>simp[intOf];omega
  ·obtain rfl:n=k:=by omega
   have J2:Hid (J T (dL D (ax,ay) C++dI W l (G.take 0) (ax,ay)) wr):=aA (by
    have h:=JR.out
    rw[List.take_of_length_le (by rw[HNn.out];exact Nat.le_refl _)]at h
    simpa [dI] using h)
   have LBR:=aA (HLd.out _ XR.out)
   clear hJ hT ht xr ocr odr blr bar JR
   obtain⟨wx,rfl⟩: ∃z,z=wr:=⟨_,rfl⟩
   have b0:=LBR.out.at 0 rfl;have b1:=LBR.out.at 1 rfl;have b2:=LBR.out.at 2 rfl;have b3:=LBR.out.at 3 rfl;have b4:=LBR.out.at 4 rfl;have b5:=LBR.out.at 5 rfl;have b6:=LBR.out.at 6 rfl;have b7:=LBR.out.at 7 rfl;have b8:=LBR.out.at 8 rfl;have b9:=LBR.out.at 9 rfl;have b10:=LBR.out.at 10 rfl;have b11:=LBR.out.at 11 rfl;have bz:=LBR.out.lt
   have y0:=BLR.out.at 0 rfl;have yz:=BLR.out.lt
   go_wp2_with fail
   clear b0 b1 b2 b3 b4 b5 b6 b7 b8 b9 b10 b11 bz y0 yz
   go_loopw [52] (fun iv wr=> ∃(k:Nat) (T:Nat→Prop),k≤m∧iv= .int .i64 (k:Int)∧J T (dL D (ax,ay) C++dI W l (G.take k) (ax,ay)) wr∧(∀j,W0.heap.size≤j→j<w1.heap.size→T j)∧Touch (fun j=> ¬(j<w0.heap.size∨j=bl∨j=ba)∧ ¬(W0.heap.size≤j∧j<w1.heap.size)) w1 wr) (fun iv _=>m-(intOf iv).toNat)
   case atStart=>exact⟨0,T,Nat.zero_le _,rfl,J2.out,TR.out,TT.out⟩
   case round=>
    clear J2 TR TT XR OCR BLR BAR LBR hk hlt
    clear T
    obtain⟨k,T,hk,rfl,hJ,hT,ht⟩:=hrel
    have JR:=aA hJ
    have TR:=aA hT
    have TT:=aA ht
    obtain⟨xr,ocr,odr,blr,bar⟩:=HT1.out _ ht
    have XR:=aA xr
    have BLR:=aA blr
    have BAR:=aA bar
    clear hJ hT ht xr ocr odr blr bar
    by_cases hlt:k<m
    ·obtain⟨g,hg⟩: ∃g,G[k]? =some g:=⟨_,List.getElem?_eq_getElem (by rw[HM.out];exact hlt)⟩
     have hgm:g∈G:=List.mem_of_getElem? hg
     obtain⟨gb,rfl,hgb,g0,g1,g2,g3⟩:=aAt (HLg.out _ XR.out) hg
     have HNX:=aA (aFd (W:=W) (l:=l) (a:=(ax,ay)) hg)
     have HPRE:=aA (aFe W l G (ax,ay) (k+1))
     have HTG:=aA (fun w' x=>HTH.out w' x g hgm)
     have HTC:=aA (aGt W l (ax,ay) (HGN.out g hgm))
     obtain⟨⟨ux,uy⟩,⟨vx',vy'⟩⟩:=g
     simp only at g0 g1 g2 g3 HTG
     have jk:(k:Int)<(m:Int):=by omega
     clear hg hgm
     go_upto_region 9 with(fail)
     obtain⟨wa,hwa⟩: ∃z,z=wr.alloc (.cells #[.int .i64 ux, .int .i64 uy, .int .i64 vx', .int .i64 vy'] 160):=⟨_,rfl⟩
     have xa:Ext wr wa:=by rw[hwa];exact(Ext.refl _).alloc _
     have GA:=aA (show Blk wa wr.heap.size 160 #[.int .i64 ux, .int .i64 uy, .int .i64 vx', .int .i64 vy'] by rw[hwa];exact Blk.new_ rfl)
     have XA:=aA xa
     have BLA:=aA (BLR.out.ext xa)
     have BAA:=aA (BAR.out.ext xa)
     have HTA:=aA (HTG.out wa (XR.out.trans xa))
     rw[←hwa]
     clear hwa xa g0 g1 g2 g3 hgb HTG
     have g0:=GA.out.at 0 rfl;have g1:=GA.out.at 1 rfl;have g2:=GA.out.at 2 rfl;have g3:=GA.out.at 3 rfl;have gz:=GA.out.lt
     have y0:=BLA.out.at 0 rfl;have yz:=BLA.out.lt
     have z0:=BAA.out.at 0 rfl;have z1:=BAA.out.at 1 rfl;have zz:=BAA.out.lt
     rcases HTC.out with⟨hz,hv⟩|⟨q,hz,hv,hqa⟩
     ·have HN2:=aA (show dI W l (G.take (k+1)) (ax,ay)=dI W l (G.take k) (ax,ay) by rw[HNX.out,hz,List.append_nil])
      have HTB:=HTA.out
      rw[hv]at HTB
      unfold bX at HTB
      simp only at HTB
      have HTB2:=aA HTB
      have HEQ: ∀w:World,(Op.equalIn 10000 56 (.agg #[.int .i64 0, .int .i64 0, .int .i64 0, .int .i64 0, .int .u64 0]) (.agg #[.int .i64 0, .int .i64 0, .int .i64 0, .int .i64 0, .int .u64 0])).run Tryz.prog w= .ok true w:=fun w=>xN 9995 0 0 0 0 0 0 0 0 0 0 w
      clear HTB hz hv HNX HPRE HTC HTA
      go_upto_region 10 with(go_at_call 101;refine HTB2.out.mono ?_;rintro e w2 ⟨rfl,x2⟩;have XQ:=aA (XA.out.trans x2);clear x2)
      have XE:=aA (XQ.out.trans ((Ext.refl _).alloc (.cells #[.int .i64 0, .int .i64 0, .int .i64 0, .int .i64 0, .int .u64 0] 56)))
      go_wp2_with fail
      go_roundw
      case rel=>exact⟨k+1,T,by omega,by go_num,by rw[HN2.out];exact HE.out _ _ _ _ JR.out XE.out,TR.out,TT.out.trans (Touch.of_ext XE.out)⟩
      case measure=>simp[intOf];omega
     ·obtain⟨⟨tx,ty⟩,qx⟩:=q
      have HN2:=aA (show dL D (ax,ay) C++dI W l (G.take (k+1)) (ax,ay)=(dL D (ax,ay) C++dI W l (G.take k) (ax,ay))++[((tx,ty),qx)] by rw[HNX.out,hz,List.append_assoc])
      have hpre2:(dL D (ax,ay) C++dI W l (G.take k) (ax,ay))++[((tx,ty),qx)]<+:dL D (ax,ay) C++dI W l G (ax,ay):=by rw[←HN2.out];exact(List.prefix_append_right_inj _).2 HPRE.out
      have HPR:=aA hpre2
      have HTB:=HTA.out
      rw[hv]at HTB
      unfold bX at HTB
      simp only at HTB
      have HTB2:=aA HTB
      have hbe:((ax==0&&ay==0)&&((tx==0&&ty==0)&&qx==0))=false:=by
       rw[Bool.eq_false_iff]
       intro hh
       simp only[Bool.and_eq_true,beq_iff_eq]at hh
       exact hqa (by rw[hh.1.1,hh.1.2,hh.2.1.1,hh.2.1.2])
      have HEQ: ∀w:World,(Op.equalIn 10000 56 (.agg #[.int .i64 ax, .int .i64 ay, .int .i64 tx, .int .i64 ty, .int .u64 qx]) (.agg #[.int .i64 0, .int .i64 0, .int .i64 0, .int .i64 0, .int .u64 0])).run Tryz.prog w= .ok false w:=fun w=>by rw[←hbe];exact xN 9995 ax ay tx ty qx 0 0 0 0 0 w
      clear HTB hz hv HNX HPRE HTC HTA hbe hqa hpre2
      go_upto_region 10 with(go_at_call 101;refine HTB2.out.mono ?_;rintro e w2 ⟨rfl,x2⟩;have XQ:=aA (XA.out.trans x2);clear x2)
      obtain⟨wq,hwq⟩: ∃z,z=w2.alloc (.cells #[.int .i64 ax, .int .i64 ay, .int .i64 tx, .int .i64 ty, .int .u64 qx] 56):=⟨_,rfl⟩
      have LQ:=aA (show Blk wq w2.heap.size 56 #[.int .i64 ax, .int .i64 ay, .int .i64 tx, .int .i64 ty, .int .u64 qx] by rw[hwq];exact Blk.new_ rfl)
      have XE:=aA (show Ext wr wq by rw[hwq];exact XQ.out.trans ((Ext.refl _).alloc _))
      rw[←hwq]
      clear hwq g0 g1 g2 g3 gz y0 yz z0 z1 zz
      have q0:=LQ.out.at 0 rfl;have q1:=LQ.out.at 1 rfl;have q2:=LQ.out.at 2 rfl;have q3:=LQ.out.at 3 rfl;have q4:=LQ.out.at 4 rfl;have qz:=LQ.out.lt
      obtain⟨fn,tmps,assign,body,hyy,hRR⟩:=HY.out T _ ((tx,ty),qx) wq (HE.out _ _ _ _ JR.out XE.out) HPR.out
      have HRR:=aA hRR
      unfold bX at hyy
      clear hRR
      refine(wpIn_wide (n:=4)).1 ?_
      gi_wp2_with (refine HRR.out.mono ?_;rintro e w3 ⟨rfl,hJ3,ht3⟩;have J3:=aA hJ3;have T3:=aA (TT.out.trans ((Touch.of_ext XE.out).trans (ht3.mono (fun j _ h=>⟨h.2,fun h2=>h.1 (TR.out j h2.1 h2.2)⟩))));clear hJ3 ht3 hyy HRR)
      go_wp2_with fail
      go_roundw
      case rel=>exact⟨k+1,T,by omega,by go_num,by rw[HN2.out];exact J3.out,TR.out,T3.out⟩
      case measure=>simp[intOf];omega
    ·obtain rfl:m=k:=by omega
     have J4:Hid (J T (dL D (ax,ay) C++dI W l G (ax,ay)) wr):=aA (by
      have h:=JR.out
      rw[List.take_of_length_le (by rw[HM.out];exact Nat.le_refl _)]at h
      exact h)
     go_wp2_with fail
     go_end0
     exact⟨⟨_,rfl⟩,T,J4.out⟩
end
end Go.Proofs.YtaellcgglldjaaaGreat

namespace Go.Proofs.YtaellcgglldjaaaGreat
open Go.RowKit
theorem aBs {S:Nat→Prop} {w:World} {h:Nat} {l:List aN} (H:HeapIs S w h l):Calls Tryz.prog 88 #[.pointer (some ⟨h,0,none⟩)] w fun e w'=>e= .returned (.int .i64 l.length)∧w=w':=by
 obtain⟨v,mb,h1,_,_⟩:=H
 exact rD h1
theorem aBw {W H x y:Int} (hm:bM W H=true):inB W H x y=bL 0 0 W H x y:=by
 have:=mayB_true.1 hm
 rw[Bool.eq_iff_iff,inB_true,hasB_true]
 omega
theorem rU {W H:Int} {l:List Int} (hm:bM W H=true) (hu:cS l) (x y:Int): ∀k,(cN W H ((List.range k).map fun k:Nat=>((k:Int),(x+aQ k,y+aR k)))).filter (fun q=> !decide (aH l W q=0))=nbC (aY l W 0 0 W H) x y k
 |0=>rfl
 |k+1=>by
  rw[List.range_succ,List.map_append,List.map_cons,List.map_nil,oZ,List.filter_append,rU hm hu x y k]
  show _=nbC (aY l W 0 0 W H) x y k++if aY l W 0 0 W H (x+aQ k) (y+aR k)=true then[(x+aQ k,y+aR k)] else[]
  congr 1
  rw[show inB W H ((k:Int),(x+aQ k,y+aR k)).2.1 ((k:Int),(x+aQ k,y+aR k)).2.2=bL 0 0 W H (x+aQ k) (y+aR k) from aBw hm]
  have hc:=(bI hu W (x+aQ k,y+aR k)).1
  unfold aY
  by_cases h1:bL 0 0 W H (x+aQ k) (y+aR k)=true
  ·by_cases h2:aH l W (x+aQ k,y+aR k)=0
   ·simp[h1,h2]
   ·have h3:0<aH l W (x+aQ k,y+aR k):=by omega
    simp[h1,h2,h3]
  ·simp[h1]
section
variable {w w':World} {sb:Nat} {W H:Int} {a:Option Addr} {n c:Nat} {tx ty:Int} {h mg mc:Nat} {k:Int} {S S' T:Nat→Prop} {K:Nat→fC} {A:AS} {M:Nat}
theorem SMem.touch (m:SMem w sb W H a n c tx ty h mg mc k S K A M) (t:Touch T w w') (h1: ¬T sb) (h2: ¬T mg) (h3: ¬T mc) (hs: ∀j,j<w.heap.size→S j→S' j∧ ¬T j) (hn: ¬S' sb∧ ¬S' mg∧ ¬S' mc) (hw: ∀j,w'.heap.size≤j→S' j):SMem w' sb W H a n c tx ty h mg mc k S' K A M where
 sea:=Blk.touch m.sea t h1
 gm:=by obtain⟨N,a1,a2⟩:=m.gm;exact⟨N,a1,a2.touch t h2⟩
 cm:=by obtain⟨N,a1,a2⟩:=m.cm;exact⟨N,a1,a2.touch t h3⟩
 heap:=by
  obtain⟨ts,a1,a2⟩:=m.heap
  exact⟨ts,(a1.mono (S':=fun j=>S' j∧ ¬T j) hs).touch t (fun j hj=>hj.2)|>.mono (fun j _ hj=>hj.1),a2⟩
 ns:=⟨hn.1,hn.2.1,hn.2.2,m.ns.2.2.2.1,m.ns.2.2.2.2.1,m.ns.2.2.2.2.2⟩
 nw:=hw
theorem SMem.wide (m:SMem w sb W H a n c tx ty h mg mc k S K A M) (hs: ∀j,S j→S' j) (hn: ¬S' sb∧ ¬S' mg∧ ¬S' mc):SMem w sb W H a n c tx ty h mg mc k S' K A M where
 sea:=m.sea
 gm:=m.gm
 cm:=m.cm
 heap:=by obtain⟨ts,a1,a2⟩:=m.heap;exact⟨ts,a1.mono (fun j _ hj=>hs j hj),a2⟩
 ns:=⟨hn.1,hn.2.1,hn.2.2,m.ns.2.2.2.1,m.ns.2.2.2.2.1,m.ns.2.2.2.2.2⟩
 nw:=fun j hj=>hs j (m.nw j hj)
end
theorem aDh {w:World} {sb:Nat} {W H:Int} {a:Option Addr} {n c:Nat} {tx ty:Int} {h mg mc:Nat} {k:Int} {S:Nat→Prop} {A:AS} {M:Nat} (hh:Nat→Int) (m:SMem w sb W H a n c tx ty h mg mc k S (kOf W hh A) A M) (hM:M≤900000) {v:Nat} (hv:0≤vx W v∧vx W v≤1000∧0≤vy W v∧vy W v≤1000) (hW:1≤W∧W≤256) (htx:0≤tx∧tx≤1000) (hty:0≤ty∧ty≤1000) (hv64:(v:Int)≤100000) (hvh:hh v=dD (vx W v) (vy W v) tx ty) (hop: ∀u,A.st u≠0→u<100000) (h2:A.st v≤2) {G:Net} {u:Nat} (hx:0≤A.g u+G.cost v∧A.g u+G.cost v≤1000000000000) (hfr:(u:Int)≤1000000) (hset:A.st v=2→A.g v≤A.g u+G.cost v):
  Calls Tryz.prog 60 #[.pointer (some ⟨sb,0,none⟩), .agg #[.int .i64 (vx W v), .int .i64 (vy W v)], .int .u64 (A.g u+G.cost v), .int .i64 (u:Int)] w fun e w'=>e= .returned (.tuple #[])∧SMem w' sb W H a n c tx ty h mg mc k S (kOf W hh (rx G u A v)) (rx G u A v) (M+1)∧Touch (fun j=>S j∨j=mg∨j=mc) w w':=by
 unfold rx
 by_cases ht:A.takes v (A.g u+G.cost v)
 ·rw[if_pos ht]
  rcases ht with h0|⟨h1,hlt⟩
  ·exact sZ hh m hM hv hW htx hty hv64 hvh hop _ _ hx (by omega) h0
  ·exact zI hh m hM hv hW htx hty hv64 hvh hop _ _ hx (by omega) h1 hlt
 ·rw[if_neg ht]
  have h0:A.st v≠0:=fun e=>ht (.inl e)
  have hge:A.g v≤A.g u+G.cost v:=by
   by_cases e:A.st v=2
   ·exact hset e
   ·exact Int.not_lt.1 fun hlt=>ht (.inr ⟨by omega,hlt⟩)
  refine(aB1 m hv hW (by omega) _ _ h0 hge).mono ?_
  rintro e w' ⟨h1,h2⟩
  exact⟨h1,(m.ext h2).few (Nat.le_succ M),Touch.of_ext h2⟩
end Go.Proofs.YtaellcgglldjaaaGreat

