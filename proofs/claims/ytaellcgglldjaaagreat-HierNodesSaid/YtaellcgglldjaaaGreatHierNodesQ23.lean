/- Part of a proof: HierB HierD HierQ. -/
import Derived.Test.YtaellcgglldjaaaGreatHierNodesQ22
import Derived.Test.YtaellcgglldjaaaGreatHierNodesQ19
import Derived.Test.YtaellcgglldjaaaGreatHierNodesQ11
import Derived.Test.YtaellcgglldjaaaGreatHierNodesQ20
set_option linter.all false
set_option linter.unusedVariables false
set_option linter.unusedSimpArgs false
namespace Go.Proofs.YtaellcgglldjaaaGreat
open Go.RowKit
section
variable {w:World} {lb:Nat} {p:Spot} {R:Nat→Prop} {W H s:Int} {l:List Int} {fa:Option Addr} {fc:Nat} {ga:Option Addr} {gc:Nat} {f t:aB}
def aIn (w:World) (L:List aB) (e:Ending) (w':World):Prop:= ∃v,e= .returned v∧Ext w w'∧Own cellE w' w.heap.size 28 v L
set_option maxRecDepth 100000 in
set_option maxHeartbeats 1000000 in
theorem sK (h:HLand w lb p R W H s l fa fc ga gc f t) (hgl:(aD W H s l).length≤45000):
  Calls Tryz.prog 51 #[.pointer (some ⟨lb,0,none⟩)] w (aIn w (aX W H (aD W H s l) f t)):=by
 have HOF:Hid (∀L:List aB,L.Pairwise ltC→(∀c,c∈L↔c∈f::t::fF (aD W H s l))→L=aX W H (aD W H s l) f t):=aA (fun L hs hm=>aGs hs hm h.inF h.inT (fun c hc=>aC9 h.good.right hc))
 have B:=aA h.blk
 unfold dL at B
 have HGO:=aA h.gates
 generalize aD W H s l=G at *
 obtain⟨n,hn⟩: ∃z,l.length=z:=⟨_,rfl⟩
 obtain⟨m,hm⟩: ∃z,G.length=z:=⟨_,rfl⟩
 have HM:=aA hm
 rw[hn,hm]at B
 rw[hm]at HGO hgl
 obtain⟨fx,fy⟩:=f
 obtain⟨tx,ty⟩:=t
 simp only at B
 have b0:=B.out.at 0 rfl;have b1:=B.out.at 1 rfl;have b2:=B.out.at 2 rfl;have b3:=B.out.at 3 rfl;have b4:=B.out.at 4 rfl;have b5:=B.out.at 5 rfl;have b6:=B.out.at 6 rfl;have b7:=B.out.at 7 rfl;have b8:=B.out.at 8 rfl;have b9:=B.out.at 9 rfl;have b10:=B.out.at 10 rfl;have b11:=B.out.at 11 rfl;have bz:=B.out.lt
 clear h hn hm
 go_enter Tryz.func51,Tryz.ntmps51
 go_upto_region 1 with(fail)
 refine aF (S:=(fun W=>(∀b o,b<w.heap.size→W.cell? ⟨b,o,none⟩=w.cell? ⟨b,o,none⟩)∧Ext w W)) [(0,true),(1,true),(2,true),(3,true),(4,true),(5,true),(6,true),(7,true),(8,false),(9,true)] (by kernel_rfl) (by kernel_rfl) (by kernel_rfl) (by decide) (fun _ _ d _ _ h=>by cases d<;>exact h) (by first|with_reducible exact aI _|exact aE z_x) (fun hHeld=> ?_)
 iterate 8 (refine SeqH.fr1 ?_;try simp only[Act.put,z_3,z_4,z_5])
 (apply SeqH.step;(·(simp only[z_0,z_1,z_2];rfl));intro K hK;go_simp;refine hK.out _ _ (aE z_x) (fun hHeld=> ?_);clear hK K;try simp only[Act.put,z_3,z_4,z_5])
 iterate 1 (refine SeqH.fr1 ?_;try simp only[Act.put,z_3,z_4,z_5])
 refine SeqH.done ?_
 have XE:=aA hHeld.2
 clear hHeld b0 b1 b2 b3 b4 b5 b6 b7 b8 b9 b10 b11 bz
 obtain⟨w1,hw1⟩: ∃z,z=(w.alloc (.cells #[.int .i64 fx, .int .i64 fy, .int .i64 tx, .int .i64 ty] 28)).drew:=⟨_,rfl⟩
 have O1:=aA (show Own cellE w1 w.heap.size 28 (.slice (some ⟨w.heap.size,0,none⟩) 2 2) [(fx,fy),(tx,ty)] by
  rw[hw1]
  exact⟨by simp[cellE], .inr ⟨w.heap.size,2, #[.int .i64 fx, .int .i64 fy, .int .i64 tx, .int .i64 ty],rfl,Nat.le_refl _,heap_alloc_new w _,by simp,by decide,by simp[cellE],by simp[cellE]⟩⟩)
 have X1:=aA (show Ext w w1 by rw[hw1];exact((Ext.refl _).alloc _).drew)
 have B1:=aA (B.out.ext X1.out)
 rw[←hw1]
 clear hw1 XE
 have b0:=B1.out.at 0 rfl;have b1:=B1.out.at 1 rfl;have b2:=B1.out.at 2 rfl;have b3:=B1.out.at 3 rfl;have b4:=B1.out.at 4 rfl;have b5:=B1.out.at 5 rfl;have b6:=B1.out.at 6 rfl;have b7:=B1.out.at 7 rfl;have b8:=B1.out.at 8 rfl;have b9:=B1.out.at 9 rfl;have b10:=B1.out.at 10 rfl;have b11:=B1.out.at 11 rfl;have bz:=B1.out.lt
 go_wp2_with fail
 clear b0 b1 b2 b3 b4 b5 b6 b7 b8 b9 b10 b11 bz
 go_loopw [3,20] (fun ov iv wr=> ∃k:Nat,k≤m∧iv= .int .i64 (k:Int)∧Own cellE wr w.heap.size 28 ov ((fx,fy)::(tx,ty)::fF (G.take k))∧Ext w wr) (fun _ iv _=>m-(intOf iv).toNat)
 case atStart=>exact⟨0,Nat.zero_le _,rfl,O1.out,X1.out⟩
 case round=>
  obtain⟨k,hk,rfl,ho,hx⟩:=hrel
  have OR:=aA ho
  have XR:=aA hx
  clear ho hx
  by_cases hlt:k<m
  ·obtain⟨g,hg⟩: ∃g,G[k]? =some g:=⟨_,List.getElem?_eq_getElem (by rw[HM.out];exact hlt)⟩
   obtain⟨gb,rfl,hgb,g0,g1,g2,g3⟩:=kB (HGO.out.ext XR.out) hg
   have HTK:=aA (aD2 hg)
   have HFL:=aA (show(fF (G.take k)).length≤2*k by rw[vE,List.length_take];omega)
   obtain⟨⟨ax,ay⟩,⟨bx,byy⟩⟩:=g
   simp only at g0 g1 g2 g3 HTK
   have jk:(k:Int)<(m:Int):=by omega
   obtain⟨oa,oc,hov⟩:=OR.out.slice
   subst hov
   clear hg
   go_upto_region 5 with(fail)
   obtain⟨wa,hwa⟩: ∃z,z=wr.alloc (.cells #[.int .i64 ax, .int .i64 ay, .int .i64 bx, .int .i64 byy] 160):=⟨_,rfl⟩
   have xa:Ext wr wa:=by rw[hwa];exact(Ext.refl _).alloc _
   have GA:=aA (show Blk wa wr.heap.size 160 #[.int .i64 ax, .int .i64 ay, .int .i64 bx, .int .i64 byy] by rw[hwa];exact Blk.new_ rfl)
   have XA:=aA (XR.out.trans xa)
   have OA:=aA (OR.out.ext (xa.alloc (.cells #[.int .i64 ax, .int .i64 ay, .int .i64 bx, .int .i64 byy] 28)))
   have RA:=aA (oZ cellE wa #[.int .i64 ax, .int .i64 ay, .int .i64 bx, .int .i64 byy] 28 [(ax,ay),(bx,byy)] rfl wa.heap.size 2 2 rfl rfl)
   have zA:=XA.out.size
   have HL2:Hid (((fx,fy)::(tx,ty)::fF (G.take k)).length+[(ax,ay),(bx,byy)].length≤100000):=aA (by have:=HFL.out;simp;omega)
   rw[←hwa]
   clear hwa xa g0 g1 g2 g3 hgb
   have g0:=GA.out.at 0 rfl;have g1:=GA.out.at 1 rfl;have g2:=GA.out.at 2 rfl;have g3:=GA.out.at 3 rfl;have gz:=GA.out.lt
   go_wp2_with (at_builtin;refine cO cellE T_cells rfl _ _ rfl w.heap.size _ _ [(ax,ay),(bx,byy)] rfl OA.out _ rfl RA.out (by have:=HL2.out;omega) (by have:=HL2.out;omega) (by simp;omega) ?_;intro v9 w9 o9 t9 l9;have O9:=aA o9;have X9:=aA ((XA.out.alloc (.cells #[.int .i64 ax, .int .i64 ay, .int .i64 bx, .int .i64 byy] 28)).of_below (t9.to_below (B:=w.heap.size) (by simp;omega) (fun k hk=>(aG OR.out hk).1)) (Nat.le_refl _));clear o9 t9 l9)
   go_roundw
   case rel=>exact⟨k+1,by omega,by go_num,by rw[HTK.out];have h:=O9.out;simpa using h,X9.out⟩
   case measure=>simp[intOf];omega
  ·obtain rfl:m=k:=by omega
   rw[List.take_of_length_le (show G.length≤m by rw[HM.out];exact Nat.le_refl _)]at OR
   have HORD:=aA (vJ OR.out (by have:=vE G;have:=HM.out;simp;omega))
   obtain⟨oa,oc,hov⟩:=OR.out.slice
   subst hov
   go_wp2_with fail
   refine(HORD.out).mono ?_
   rintro e w2 ⟨v',L',rfl,o2,hs,hm2,t2⟩
   have hL:=HOF.out L' hs hm2
   subst hL
   have O2:=aA o2
   have X2:=aA (XR.out.of_below (t2.to_below (B:=w.heap.size) XR.out.size (fun k hk=>(aG OR.out hk).1)) (Nat.le_refl _))
   obtain⟨oa2,oc2,rfl⟩:=o2.slice
   clear o2 hs hm2 t2 HORD
   go_wp2_with fail
   go_ret
   exact⟨_,rfl,X2.out,O2.out⟩
end
theorem aA8 (w:World) (base b:Nat) (f t:aB) (hb:b=w.heap.size) (hbase:base≤b):Own cellE (w.alloc (.cells #[.int .i64 f.1, .int .i64 f.2, .int .i64 t.1, .int .i64 t.2] 28)) base 28 (.slice (some ⟨b,0,none⟩) 2 2) [f,t]:=by
 subst hb
 exact⟨by simp[cellE], .inr ⟨w.heap.size,2, #[.int .i64 f.1, .int .i64 f.2, .int .i64 t.1, .int .i64 t.2],rfl,hbase,heap_alloc_new w _,by simp,by decide,by simp[cellE],by simp[cellE]⟩⟩
def aLv (w:World) (p:Spot) (R:Nat→Prop) (W H s:Int) (l:List Int) (f t:aB) (more:List aB) (e:Ending) (w':World):Prop:=
 ((((f::t::more).all fun c=>inB W H c.1 c.2)=false)∧e= .returned (.tuple #[.pointer none, .int .i64 10])∧Ext w w')∨
 ((((f::t::more).all fun c=>inB W H c.1 c.2)=true)∧ ∃lb fa fc ga gc,e= .returned (.tuple #[.pointer (some ⟨lb,0,none⟩), .int .i64 0])∧Ext w w'∧HLand w' lb p R W H s l fa fc ga gc f t)
set_option maxRecDepth 100000 in
set_option maxHeartbeats 1000000 in
theorem rQ {w:World} {p:Spot} {R:Nat→Prop} {W H s:Int} {l:List Int} (h:WorldAt w p R W H s l) (f t:aB) (more:List aB) (ma:Option Addr) (mc:Nat) (hm:Reads cellE w (.slice ma more.length mc) more) (hml:more.length≤1000):
  Calls Tryz.prog 40 #[.pointer (some ⟨p.b,0,none⟩), .agg #[.int .i64 f.1, .int .i64 f.2], .agg #[.int .i64 t.1, .int .i64 t.2], .slice ma more.length mc] w (aLv w p R W H s l f t more):=by
 have HW:=aA h
 have HP:=aA (fun(w':World) (x:Ext w w')=>(by obtain⟨G,T,h1,_⟩:=h.ext x;exact aAy h1:Calls Tryz.prog 18 #[.pointer (some ⟨p.b,0,none⟩)] w' fun e w''=>e= .returned (.agg #[.int .i64 W, .int .i64 H, .int .i64 s])∧Ext w' w''))
 have HFd:=aA (fun(w':World) (x:Ext w w')=>(by obtain⟨G,T,h1,_⟩:=h.ext x;exact aAt h1:Calls Tryz.prog 84 #[.pointer (some ⟨p.b,0,none⟩)] w' (rZ w' W H l)))
 have HGa:=aA (fun(w':World) (x:Ext w w')=>(by obtain⟨G,T,h1,h3⟩:=h.ext x;exact rD h1 h3.gates:Calls Tryz.prog 29 #[.pointer (some ⟨p.b,0,none⟩)] w' (vZ w' (aD W H s l))))
 have HMR:=aA hm
 obtain⟨k0,hk0⟩: ∃z,more.length=z:=⟨_,rfl⟩
 have LM:=aA hk0
 rw[hk0]at HMR hml⊢
 obtain⟨pb,hpb⟩: ∃z,p.b=z:=⟨_,rfl⟩
 have HPB:=aA hpb
 rw[hpb]at HP HFd HGa⊢
 clear h hm hk0 hpb
 obtain⟨fx,fy⟩:=f
 obtain⟨tx,ty⟩:=t
 simp only
 go_enter Tryz.func40,Tryz.ntmps40
 go_upto_region 3 with(fail)
 obtain⟨w1,hw1⟩: ∃z,z=(w.alloc (.cells #[.int .i64 fx, .int .i64 fy] 28)).alloc (.cells #[.int .i64 tx, .int .i64 ty] 28):=⟨_,rfl⟩
 have X1:=aA (show Ext w w1 by rw[hw1];exact((Ext.refl _).alloc _).alloc _)
 have F1:=aA (show Blk w1 w.heap.size 28 #[.int .i64 fx, .int .i64 fy] by rw[hw1];exact(Blk.new_ rfl).over)
 have T1:=aA (show Blk w1 (w.heap.size+1) 28 #[.int .i64 tx, .int .i64 ty] by rw[hw1];exact Blk.new_ (by simp))
 rw[←hw1]
 clear hw1
 have c0:=F1.out.at 0 rfl;have c1:=F1.out.at 1 rfl;have cz:=F1.out.lt
 have d0:=T1.out.at 0 rfl;have d1:=T1.out.at 1 rfl;have dz:=T1.out.lt
 refine aF (S:=(fun W=>(∀b o,b<w1.heap.size→W.cell? ⟨b,o,none⟩=w1.cell? ⟨b,o,none⟩)∧Ext w1 W)) [(0,true),(1,true),(3,true),(5,true),(7,true),(8,true),(2,false),(4,false),(6,false),(9,true),(10,false),(11,true)] (by kernel_rfl) (by kernel_rfl) (by kernel_rfl) (by decide) (fun _ _ d _ _ h=>by cases d<;>exact h) (by first|with_reducible exact aI _|exact aE z_x) (fun hHeld=> ?_)
 iterate 6 (refine SeqH.fr1 ?_;try simp only[Act.put,z_3,z_4,z_5])
 (apply SeqH.step;(·(simp only[z_0,z_1,z_2];rfl));intro K hK;go_simp;refine(HFd.out _ (X1.out.trans z_x)).mono ?_;rintro e w3 ⟨fa,fc,rfl,x3,o3⟩;have O3:=aA o3;clear o3;go_wp2_with fail;refine hK.out _ _ (aE z_x) (fun hHeld=> ?_);clear hK K;try simp only[Act.put,z_3,z_4,z_5])
 (apply SeqH.step;(·(simp only[z_0,z_1,z_2];rfl));intro K hK;go_simp;refine(HP.out _ (X1.out.trans z_x)).mono ?_;rintro e w4 ⟨rfl,x4⟩;go_wp2_with fail;refine hK.out _ _ (aE z_x) (fun hHeld=> ?_);clear hK K;try simp only[Act.put,z_3,z_4,z_5])
 (apply SeqH.step;(·(simp only[z_0,z_1,z_2];rfl));intro K hK;go_simp;refine(HGa.out _ (X1.out.trans z_x)).mono ?_;rintro e w5 ⟨v5,rfl,x5,o5⟩;obtain⟨ga,gc,rfl⟩:=o5.slice;have O5:=aA o5;have O3c:=aA ((O3.out.ext x4).ext x5);have X5:=aA (show Ext w1 w5 from z_x);clear o5;go_wp2_with fail;refine hK.out _ _ (aE z_x) (fun hHeld=> ?_);clear hK K;try simp only[Act.put,z_3,z_4,z_5])
 iterate 1 (refine SeqH.fr1 ?_;try simp only[Act.put,z_3,z_4,z_5])
 (apply SeqH.step;(·(simp only[z_0,z_1,z_2];rfl));intro K hK;go_simp;refine hK.out _ _ (aE z_x) (fun hHeld=> ?_);clear hK K;try simp only[Act.put,z_3,z_4,z_5])
 iterate 1 (refine SeqH.fr1 ?_;try simp only[Act.put,z_3,z_4,z_5])
 refine SeqH.done ?_
 obtain⟨w6,hw6⟩: ∃z,z=w5.alloc (.cells #[.pointer (some ⟨pb,0,none⟩), .int .i64 W, .int .i64 H, .slice fa l.length fc, .int .i64 W, .int .i64 H, .int .i64 s, .slice ga (aD W H s l).length gc, .int .i64 fx, .int .i64 fy, .int .i64 tx, .int .i64 ty] 176):=⟨_,rfl⟩
 have x6:Ext w5 w6:=by rw[hw6];exact(Ext.refl _).alloc _
 have B6:=aA (show Blk w6 w5.heap.size 176 #[.pointer (some ⟨pb,0,none⟩), .int .i64 W, .int .i64 H, .slice fa l.length fc, .int .i64 W, .int .i64 H, .int .i64 s, .slice ga (aD W H s l).length gc, .int .i64 fx, .int .i64 fy, .int .i64 tx, .int .i64 ty] by rw[hw6];exact Blk.new_ rfl)
 have X6:=aA ((X1.out.trans X5.out).trans x6)
 have O3d:=aA (O3c.out.ext x6)
 have O5d:=aA (O5.out.ext x6)
 have F6:=aA (F1.out.ext (X5.out.trans x6))
 have T6:=aA (T1.out.ext (X5.out.trans x6))
 rw[←hw6]
 obtain⟨lb,hlb⟩: ∃z,w5.heap.size=z:=⟨_,rfl⟩
 rw[hlb]at B6⊢
 clear hHeld hw6 x6 x3 x4 x5 O3 O3c O5 c0 c1 cz d0 d1 dz hlb F1 T1 X1 X5
 have c0:=F6.out.at 0 rfl;have c1:=F6.out.at 1 rfl;have cz:=F6.out.lt
 have d0:=T6.out.at 0 rfl;have d1:=T6.out.at 1 rfl;have dz:=T6.out.lt
 obtain⟨C,hC⟩: ∃z,[(fx,fy),(tx,ty)]++more=z:=⟨_,rfl⟩
 have HC:=aA (show(fx,fy)::(tx,ty)::more=C from hC)
 have HKL:=aA hC
 obtain⟨k1,hk1⟩: ∃z,C.length=z:=⟨_,rfl⟩
 have LC:=aA hk1
 have hk1b:k1≤1002:=by rw[←hk1,←hC,List.length_append,LM.out];simp;omega
 have hk1p:2≤k1:=by rw[←hk1,←hC,List.length_append];simp
 clear hC hk1
 go_wp2_with (at_builtin;refine cO cellE T_cells rfl _ _ rfl w6.heap.size _ [(fx,fy),(tx,ty)] more rfl (aA8 w6 _ _ (fx,fy) (tx,ty) rfl (Nat.le_refl _)) _ rfl (HMR.out.ext (X6.out.trans ((Ext.refl _).alloc _))) (by rw[LM.out];simp;omega) (by rw[LM.out];simp;omega) (by simp) ?_;intro v9 w9 o9 t9 l9;obtain⟨va,vc,rfl⟩:=o9.slice;rw[HKL.out,LC.out]at o9⊢;have O9:=aA o9;have X9:=aA (((Ext.refl w6).alloc (.cells #[.int .i64 fx, .int .i64 fy, .int .i64 tx, .int .i64 ty] 28)).of_below (t9.to_below (B:=w6.heap.size) (by simp) (fun k hk=>by cases hk;exact Nat.le_refl _)) (Nat.le_refl _));clear o9 t9 l9)
 have B9:=aA (B6.out.ext X9.out)
 have X9w:=aA (X6.out.trans X9.out)
 have O3e:=aA (O3d.out.ext X9.out)
 have O5e:=aA (O5d.out.ext X9.out)
 clear c0 c1 cz d0 d1 dz F6 T6 B6 X6 O3d O5d X9
 go_loopw [32] (fun iv wr=> ∃k:Nat,k≤k1∧iv= .int .i64 (k:Int)∧((C.take k).all fun c=>inB W H c.1 c.2)=true∧Ext w9 wr) (fun iv _=>k1-(intOf iv).toNat)
 case atStart=>exact⟨0,Nat.zero_le _,rfl,rfl,Ext.refl _⟩
 case round=>
  obtain⟨k,hk,rfl,hall,hx⟩:=hrel
  have HALL:=aA hall
  have XR:=aA hx
  clear hall hx
  by_cases hlt:k<k1
  ·have hkl:k<C.length:=by rw[LC.out];exact hlt
   obtain⟨rb,ro,hre,hrb,q0,q1⟩:=mM (O9.out.reads.ext XR.out) (List.getElem?_eq_getElem hkl)
   subst hre
   have HTK:Hid (((C.take (k+1)).all fun c=>inB W H c.1 c.2)=(((C.take k).all fun c=>inB W H c.1 c.2)&&inB W H C[k].1 C[k].2)):=aA (by
    rw[List.take_add_one,List.getElem?_eq_getElem hkl,List.all_append]
    simp)
   have HAL:=aA (fun(h:inB W H C[k].1 C[k].2=false)=>(show(C.all fun c=>inB W H c.1 c.2)=false from by
    rw[Bool.eq_false_iff]
    intro h2
    have:=List.all_eq_true.1 h2 C[k] (List.getElem_mem hkl)
    rw[h]at this
    cases this))
   generalize C[k]=pc at *
   obtain⟨px,py⟩:=pc
   simp only at q0 q1 HTK HAL
   have jk:(k:Int)<(k1:Int):=by omega
   go_upto_region 7 with(fail)
   obtain⟨wc,hwc⟩: ∃z,z=wr.alloc (.cells #[.int .i64 px, .int .i64 py] 28):=⟨_,rfl⟩
   have xc:Ext wr wc:=by rw[hwc];exact(Ext.refl _).alloc _
   have BC:=aA (show Blk wc wr.heap.size 28 #[.int .i64 px, .int .i64 py] by rw[hwc];exact Blk.new_ rfl)
   have XC:=aA (XR.out.trans xc)
   have BL:=aA (B9.out.ext XC.out)
   rw[←hwc]
   clear hwc xc hkl q0 q1
   have c0:=BC.out.at 0 rfl;have c1:=BC.out.at 1 rfl;have cz:=BC.out.lt
   have y0:=BL.out.at 0 rfl;have y1:=BL.out.at 1 rfl;have y2:=BL.out.at 2 rfl;have y3:=BL.out.at 3 rfl;have y4:=BL.out.at 4 rfl;have y5:=BL.out.at 5 rfl;have y6:=BL.out.at 6 rfl;have y7:=BL.out.at 7 rfl;have y8:=BL.out.at 8 rfl;have y9:=BL.out.at 9 rfl;have y10:=BL.out.at 10 rfl;have y11:=BL.out.at 11 rfl;have yz:=BL.out.lt
   have HIN:=aA (fun w'=>fT W H px py w')
   generalize inB W H px py=ib at *
   refine aF (S:=(fun W=>(∀b o,b<wc.heap.size→W.cell? ⟨b,o,none⟩=wc.cell? ⟨b,o,none⟩)∧Ext wc W)) [(0,true),(1,true),(2,true),(3,true),(4,true),(5,true),(6,false),(7,true)] (by kernel_rfl) (by kernel_rfl) (by kernel_rfl) (by decide) (fun _ _ d _ _ h=>by cases d<;>exact h) (by first|with_reducible exact aI _|exact aE z_x) (fun hHeld=> ?_)
   iterate 6 (refine SeqH.fr1 ?_;try simp only[Act.put,z_3,z_4,z_5])
   (apply SeqH.step;(·(simp only[z_0,z_1,z_2];rfl));intro K hK;go_simp;refine(HIN.out _).mono ?_;rintro e w10 ⟨rfl,hb10⟩;go_wp2_with fail;refine hK.out _ _ (aE z_x) (fun hHeld=> ?_);clear hK K;try simp only[Act.put,z_3,z_4,z_5])
   iterate 1 (refine SeqH.fr1 ?_;try simp only[Act.put,z_3,z_4,z_5])
   refine SeqH.done ?_
   have XE:=aA hHeld.2
   clear hHeld
   cases ib
   ·go_wp2_with fail
    refine bodyPost_ret (v:= .tuple #[.pointer none, .int .i64 10]) (by simp[results,Tryz.results40,go_sem, *]) rfl ?_
    exact .inl ⟨by rw[HC.out];exact HAL.out (by first|rfl|trivial),rfl,X9w.out.trans (XC.out.trans XE.out)⟩
   ·go_wp2_with fail
    go_roundw
    case rel=>exact⟨k+1,by omega,by go_num,by rw[HTK.out,HALL.out];rfl,XC.out.trans XE.out⟩
    case measure=>simp[intOf];omega
  ·obtain rfl:k1=k:=by omega
   rw[List.take_of_length_le (by rw[LC.out];exact Nat.le_refl _)]at HALL
   go_wp2_with fail
   refine bodyPost_ret (v:= .tuple #[.pointer (some ⟨lb,0,none⟩), .int .i64 0]) (by simp[results,Tryz.results40,go_sem, *]) rfl ?_
   have hall:(((fx,fy)::(tx,ty)::more).all fun c=>inB W H c.1 c.2)=true:=by rw[HC.out];exact HALL.out
   refine .inr ⟨hall,lb,fa,fc,ga,gc,rfl,X9w.out.trans XR.out,?_⟩
   exact {
    world:=HW.out.ext (X9w.out.trans XR.out)
    blk:=by unfold dL;rw[HPB.out];exact B9.out.ext XR.out
    row:=(sE O3e.out).ext XR.out
    gates:=(O5e.out.ext XR.out).lower (Nat.zero_le _)
    inF:=List.all_eq_true.1 hall (fx,fy) (by simp)
    inT:=List.all_eq_true.1 hall (tx,ty) (by simp)}
end Go.Proofs.YtaellcgglldjaaaGreat

namespace Go.Proofs.YtaellcgglldjaaaGreat
open Go.RowKit
def bS (a b:aB) (x:Int):Value:= .agg #[.int .i64 a.1, .int .i64 a.2, .int .i64 b.1, .int .i64 b.2, .int .u64 x]
def nT (W:Int) (l:List Int) (g:aB×aB) (a:aB):Value:=if g.1=a then bS a g.2 (aO l W g.2) else if g.2=a then bS a g.1 (aO l W g.1) else bS (0,0) (0,0) 0
section
variable {w:World} {lb:Nat} {p:Spot} {R:Nat→Prop} {W H s:Int} {l:List Int} {fa:Option Addr} {fc:Nat} {ga:Option Addr} {gc:Nat} {f t:aB}
set_option maxRecDepth 100000 in
set_option maxHeartbeats 1000000 in
theorem aAh (h:HLand w lb p R W H s l fa fc ga gc f t) (g:aB×aB) (a:aB) (h1:inB W H g.1.1 g.1.2=true) (h2:inB W H g.2.1 g.2.2=true):
  Calls Tryz.prog 101 #[.pointer (some ⟨lb,0,none⟩), .agg #[.int .i64 g.1.1, .int .i64 g.1.2, .int .i64 g.2.1, .int .i64 g.2.2], .agg #[.int .i64 a.1, .int .i64 a.2]] w fun e w'=>e= .returned (nT W l g a)∧Ext w w':=by
 have HC1:=aA (fun(w':World) (x:Ext w w')=>oH (h.ext x) h1)
 have HC2:=aA (fun(w':World) (x:Ext w w')=>oH (h.ext x) h2)
 clear h h1 h2
 obtain⟨⟨ux,uy⟩,⟨vx,vy⟩⟩:=g
 obtain⟨ax,ay⟩:=a
 simp only at HC1 HC2
 have hE1:=fun(w:World)=>bF (ax,ay) (ux,uy) w
 have hE2:=fun(w:World)=>bF (ax,ay) (vx,vy) w
 simp only at hE1 hE2
 rw[bB]at hE1 hE2
 obtain⟨V,hV⟩: ∃V,nT W l ((ux,uy),(vx,vy)) (ax,ay)=V:=⟨_,rfl⟩
 have V1:=aA (fun(h:(ax,ay)=(ux,uy))=>(show bS (ax,ay) (vx,vy) (aO l W (vx,vy))=V from by rw[←hV];unfold nT;rw[if_pos h.symm]))
 have V2:=aA (fun(h: ¬(ax,ay)=(ux,uy)) (h':(ax,ay)=(vx,vy))=>(show bS (ax,ay) (ux,uy) (aO l W (ux,uy))=V from by rw[←hV];unfold nT;rw[if_neg (fun e=>h e.symm),if_pos h'.symm]))
 have V3:=aA (fun(h: ¬(ax,ay)=(ux,uy)) (h': ¬(ax,ay)=(vx,vy))=>(show bS (0,0) (0,0) 0=V from by rw[←hV];unfold nT;rw[if_neg (fun e=>h e.symm),if_neg (fun e=>h' e.symm)]))
 rw[hV]
 clear hV
 simp only
 go_enter Tryz.func101,Tryz.ntmps101
 go_upto_region 1 with(fail)
 obtain⟨w1,hw1⟩: ∃z,z=((w.alloc (.cells #[.int .i64 ux, .int .i64 uy, .int .i64 vx, .int .i64 vy] 160)).alloc (.cells #[.int .i64 ax, .int .i64 ay] 28)).alloc (.cells #[.int .i64 0, .int .i64 0, .int .i64 0, .int .i64 0, .int .u64 0] 56):=⟨_,rfl⟩
 have X1:=aA (show Ext w w1 by rw[hw1];exact(((Ext.refl _).alloc _).alloc _).alloc _)
 have G1:=aA (show Blk w1 w.heap.size 160 #[.int .i64 ux, .int .i64 uy, .int .i64 vx, .int .i64 vy] by rw[hw1];exact(Blk.new_ rfl).over.over)
 have A1:=aA (show Blk w1 (w.heap.size+1) 28 #[.int .i64 ax, .int .i64 ay] by rw[hw1];exact(Blk.new_ (by simp)).over)
 have L1:=aA (show Blk w1 (w.heap.size+1+1) 56 #[.int .i64 0, .int .i64 0, .int .i64 0, .int .i64 0, .int .u64 0] by rw[hw1];exact Blk.new_ (by simp))
 rw[←hw1]
 obtain⟨gb,hgb⟩: ∃z,w.heap.size=z:=⟨_,rfl⟩
 have zgw:w.heap.size≤gb:=by omega
 rw[hgb]at G1 A1 L1⊢
 clear hw1 hgb
 have g0:=G1.out.at 0 rfl;have g1:=G1.out.at 1 rfl;have g2:=G1.out.at 2 rfl;have g3:=G1.out.at 3 rfl;have gz:=G1.out.lt
 have c0:=A1.out.at 0 rfl;have c1:=A1.out.at 1 rfl;have cz:=A1.out.lt
 have r0:=L1.out.at 0 rfl;have r1:=L1.out.at 1 rfl;have r2:=L1.out.at 2 rfl;have r3:=L1.out.at 3 rfl;have r4:=L1.out.at 4 rfl;have rz:=L1.out.lt
 have S0:=aA (show CellsAt [(⟨gb,0,none⟩, .int .i64 ux),(⟨gb,1,none⟩, .int .i64 uy),(⟨gb,2,none⟩, .int .i64 vx),(⟨gb,3,none⟩, .int .i64 vy),(⟨gb+1,0,none⟩, .int .i64 ax),(⟨gb+1,1,none⟩, .int .i64 ay)] w1 from⟨g0,g1,g2,g3,c0,c1,trivial⟩)
 have FIN:Hid (∀(w2:World) (a b c d e:Value),Ext w1 w2→Blk (((((w2.setCell ⟨gb+1+1,0,none⟩ a).setCell ⟨gb+1+1,1,none⟩ b).setCell ⟨gb+1+1,2,none⟩ c).setCell ⟨gb+1+1,3,none⟩ d).setCell ⟨gb+1+1,4,none⟩ e) (gb+1+1) 56 #[a,b,c,d,e]∧Ext w (((((w2.setCell ⟨gb+1+1,0,none⟩ a).setCell ⟨gb+1+1,1,none⟩ b).setCell ⟨gb+1+1,2,none⟩ c).setCell ⟨gb+1+1,3,none⟩ d).setCell ⟨gb+1+1,4,none⟩ e)):=aA (fun w2 a b c d e x=>by
  refine⟨?_,?_⟩
  ·exact(((((L1.out.ext x).set_ 0 a).set_ 1 b).set_ 2 c).set_ 3 d).set_ 4 e
  ·exact(((((X1.out.trans x).setCell (p:=⟨gb+1+1,0,none⟩) (by simp;omega) a).setCell (p:=⟨gb+1+1,1,none⟩) (by simp;omega) b).setCell (p:=⟨gb+1+1,2,none⟩) (by simp;omega) c).setCell (p:=⟨gb+1+1,3,none⟩) (by simp;omega) d).setCell (p:=⟨gb+1+1,4,none⟩) (by simp;omega) e)
 have rf0:=L1.out.frozen 0
 have rf1:=L1.out.frozen 1
 have rf2:=L1.out.frozen 2
 have rf3:=L1.out.frozen 3
 have rf4:=L1.out.frozen 4
 by_cases e1:(ax,ay)=(ux,uy)
 ·have d1:decide ((ax,ay)=(ux,uy))=true:=by simpa using e1
  rw[d1]at hE1
  have HVV:=aA (V1.out e1)
  go_upto_region 3 with(fail)
  refine iY (S:=(CellsAt [(⟨gb,0,none⟩, .int .i64 ux),(⟨gb,1,none⟩, .int .i64 uy),(⟨gb,2,none⟩, .int .i64 vx),(⟨gb,3,none⟩, .int .i64 vy),(⟨gb+1,0,none⟩, .int .i64 ax),(⟨gb+1,1,none⟩, .int .i64 ay)])) 8 [(0,true),(1,true),(2,true),(3,true),(4,true),(5,true),(6,false),(7,true),(8,false)] (by kernel_rfl) (by kernel_rfl) (by kernel_rfl) (by decide) (fun _ _ d _ _ h=>by cases d<;>exact h) (CellsAt.ext ((Ext.refl _).drew) S0.out) (fun hHeld=> ?_)
  iterate 6 (refine SeqR.fr2 ?_;try simp only[Act.put,z_3,z_4,z_5])
  (apply SeqR.step;(·(simp only[z_0,z_1,z_2];rfl));intro K hK;go_simp;refine(HC2.out _ (X1.out.trans z_x)).mono ?_;rintro e w3 ⟨rfl,x3⟩;have X3:=aA (show Ext w1 w3 from z_x);have L3:=aA (L1.out.ext X3.out);have t0:=L3.out.at 0 rfl;have t1:=L3.out.at 1 rfl;have t2:=L3.out.at 2 rfl;have t3:=L3.out.at 3 rfl;have t4:=L3.out.at 4 rfl;have tz:=L3.out.lt;have tf0:=L3.out.frozen 0;have tf1:=L3.out.frozen 1;have tf2:=L3.out.frozen 2;have tf3:=L3.out.frozen 3;have tf4:=L3.out.frozen 4;clear x3;go_wp2_with fail;refine hK.out _ _ (fun _=>(CellsAt.ext X3.out S0.out)) (fun hHeld=> ?_);replace hHeld:=hHeld (by decide);clear hK K;try simp only[Act.put,z_3,z_4,z_5])
  iterate 1 (refine SeqR.fr2 ?_;try simp only[Act.put,z_3,z_4,z_5])
  (apply SeqR.step;(·(simp only[z_0,z_1,z_2];rfl));intro K hK;go_simp;refine hK.out _ _ (fun h=>absurd rfl h) (fun hHeld=> ?_);clear hK K;try simp only[Act.put,z_3,z_4,z_5])
  refine SeqR.done ?_
  clear hHeld t0 t1 t2 t3 t4 tz tf0 tf1 tf2 tf3 tf4 r0 r1 r2 r3 r4 rz rf0 rf1 rf2 rf3 rf4 c0 c1 cz g0 g1 g2 g3 gz
  have FB:=aA (FIN.out w3 (.int .i64 ax) (.int .i64 ay) (.int .i64 vx) (.int .i64 vy) (.int .u64 (aO l W (vx,vy))) X3.out)
  have y0:=FB.out.1.at 0 rfl
  have y1:=FB.out.1.at 1 rfl
  have y2:=FB.out.1.at 2 rfl
  have y3:=FB.out.1.at 3 rfl
  have y4:=FB.out.1.at 4 rfl
  have yz:=FB.out.1.lt
  go_wp2_with fail
  exact bodyPost_ret (v:= .agg #[.int .i64 ax, .int .i64 ay, .int .i64 vx, .int .i64 vy, .int .u64 (aO l W (vx,vy))]) (by simp[results,Tryz.results101,go_sem, *]) rfl ⟨congrArg Ending.returned HVV.out,FB.out.2⟩
 ·have d1:decide ((ax,ay)=(ux,uy))=false:=by simpa using e1
  rw[d1]at hE1
  by_cases e2:(ax,ay)=(vx,vy)
  ·have d2:decide ((ax,ay)=(vx,vy))=true:=by simpa using e2
   rw[d2]at hE2
   have HVV:=aA (V2.out e1 e2)
   go_upto_region 5 with(fail)
   refine iY (S:=(CellsAt [(⟨gb,0,none⟩, .int .i64 ux),(⟨gb,1,none⟩, .int .i64 uy),(⟨gb,2,none⟩, .int .i64 vx),(⟨gb,3,none⟩, .int .i64 vy),(⟨gb+1,0,none⟩, .int .i64 ax),(⟨gb+1,1,none⟩, .int .i64 ay)])) 8 [(0,true),(1,true),(2,true),(3,true),(4,true),(5,true),(6,false),(7,true),(8,false)] (by kernel_rfl) (by kernel_rfl) (by kernel_rfl) (by decide) (fun _ _ d _ _ h=>by cases d<;>exact h) (CellsAt.ext ((Ext.refl _).drew) S0.out) (fun hHeld=> ?_)
   iterate 6 (refine SeqR.fr2 ?_;try simp only[Act.put,z_3,z_4,z_5])
   (apply SeqR.step;(·(simp only[z_0,z_1,z_2];rfl));intro K hK;go_simp;refine(HC1.out _ (X1.out.trans z_x)).mono ?_;rintro e w3 ⟨rfl,x3⟩;have X3:=aA (show Ext w1 w3 from z_x);have L3:=aA (L1.out.ext X3.out);have t0:=L3.out.at 0 rfl;have t1:=L3.out.at 1 rfl;have t2:=L3.out.at 2 rfl;have t3:=L3.out.at 3 rfl;have t4:=L3.out.at 4 rfl;have tz:=L3.out.lt;have tf0:=L3.out.frozen 0;have tf1:=L3.out.frozen 1;have tf2:=L3.out.frozen 2;have tf3:=L3.out.frozen 3;have tf4:=L3.out.frozen 4;clear x3;go_wp2_with fail;refine hK.out _ _ (fun _=>(CellsAt.ext X3.out S0.out)) (fun hHeld=> ?_);replace hHeld:=hHeld (by decide);clear hK K;try simp only[Act.put,z_3,z_4,z_5])
   iterate 1 (refine SeqR.fr2 ?_;try simp only[Act.put,z_3,z_4,z_5])
   (apply SeqR.step;(·(simp only[z_0,z_1,z_2];rfl));intro K hK;go_simp;refine hK.out _ _ (fun h=>absurd rfl h) (fun hHeld=> ?_);clear hK K;try simp only[Act.put,z_3,z_4,z_5])
   refine SeqR.done ?_
   clear hHeld t0 t1 t2 t3 t4 tz tf0 tf1 tf2 tf3 tf4 r0 r1 r2 r3 r4 rz rf0 rf1 rf2 rf3 rf4 c0 c1 cz g0 g1 g2 g3 gz
   have FB:=aA (FIN.out w3 (.int .i64 ax) (.int .i64 ay) (.int .i64 ux) (.int .i64 uy) (.int .u64 (aO l W (ux,uy))) X3.out)
   have y0:=FB.out.1.at 0 rfl
   have y1:=FB.out.1.at 1 rfl
   have y2:=FB.out.1.at 2 rfl
   have y3:=FB.out.1.at 3 rfl
   have y4:=FB.out.1.at 4 rfl
   have yz:=FB.out.1.lt
   go_wp2_with fail
   exact bodyPost_ret (v:= .agg #[.int .i64 ax, .int .i64 ay, .int .i64 ux, .int .i64 uy, .int .u64 (aO l W (ux,uy))]) (by simp[results,Tryz.results101,go_sem, *]) rfl ⟨congrArg Ending.returned HVV.out,FB.out.2⟩
  ·have d2:decide ((ax,ay)=(vx,vy))=false:=by simpa using e2
   rw[d2]at hE2
   have HVV:=aA (V3.out e1 e2)
   have FB:=aA (FIN.out w1 (.int .i64 0) (.int .i64 0) (.int .i64 0) (.int .i64 0) (.int .u64 0) (Ext.refl _))
   have y0:=FB.out.1.at 0 rfl
   have y1:=FB.out.1.at 1 rfl
   have y2:=FB.out.1.at 2 rfl
   have y3:=FB.out.1.at 3 rfl
   have y4:=FB.out.1.at 4 rfl
   have yz:=FB.out.1.lt
   go_wp2_with fail
   exact bodyPost_ret (v:= .agg #[.int .i64 0, .int .i64 0, .int .i64 0, .int .i64 0, .int .u64 0]) (by simp[results,Tryz.results101,go_sem, *]) rfl ⟨congrArg Ending.returned HVV.out,FB.out.2⟩
end
end Go.Proofs.YtaellcgglldjaaaGreat

namespace Go.Proofs.YtaellcgglldjaaaGreat
open Go.RowKit
theorem aLl {a b:aB} (h:ltC a b):a≠b:=by
 rintro rfl
 unfold ltC at h
 omega
theorem jI {l:List aB} (h:l.Pairwise ltC):l.Nodup:=h.imp aLl
theorem tX {α:Type} [DecidableEq α]: ∀{l l':List α},l.Nodup→(∀c∈l,c∈l')→l.length≤l'.length
 |[],_,_,_=>Nat.zero_le _
 |a::l,l',hn,hs=>by
  obtain⟨h1,h2⟩:=List.nodup_cons.1 hn
  have ha:=hs a (by simp)
  have h3:l.length≤(l'.erase a).length:=tX h2 (fun c hc=>(List.mem_erase_of_ne (fun e=>by rw[e]at hc;exact h1 hc)).2 (hs c (by simp[hc])))
  rw[List.length_erase_of_mem ha]at h3
  have:=List.length_pos_of_mem ha
  rw[List.length_cons]
  omega
theorem aKq {α:Type} [DecidableEq α] {l l':List α} (hn:l.Nodup) (hs: ∀c∈l,c∈l') (hl:l'.length≤l.length): ∀c∈l',c∈l:=fun c hc=>by
 refine Classical.byContradiction fun h=> ?_
 have h1:=tX (l:=c::l) (List.nodup_cons.2 ⟨h,hn⟩) (fun x hx=>by
  rcases List.mem_cons.1 hx with rfl|hx
  ·exact hc
  ·exact hs x hx)
 rw[List.length_cons]at h1
 omega
def inC (W H s:Int) (G:List (aB×aB)) (f t:aB) (id:Int):List aB:=(aX W H G f t).filter fun c=>decide (ofN W s c.1 c.2=id)
theorem lF (W H s:Int) (G:List (aB×aB)) (f t:aB) (id:Int):(inC W H s G f t id).Pairwise ltC:=(gW W H G f t).filter _
theorem nL {W H s:Int} (hm:bM W H=true) {G:List (aB×aB)} {f t:aB} {id:Int} {c:aB}:c∈inC W H s G f t id↔(inB W H c.1 c.2=true∧ofN W s c.1 c.2=id)∧(c=f∨c=t∨gIn G c=true):=by
 unfold inC
 rw[List.mem_filter,nodesL_mem,decide_eq_true_eq]
 have h:=mayB_true.1 hm
 constructor
 ·rintro⟨⟨h1,h2⟩,h3⟩
  exact⟨⟨inB_true.2 (by omega),h3⟩,h2⟩
 ·rintro⟨⟨h1,h3⟩,h2⟩
  have:=inB_true.1 h1
  exact⟨⟨by omega,h2⟩,h3⟩
theorem aLx {W H s:Int} {l:List Int} (g:Good W H s l) {f t:aB} {id:Int} (hid:0≤id∧id<cnt W H s) (hf:inB W H f.1 f.2=true) (ht:inB W H t.1 t.2=true) {L:List aB} (hs:L.Pairwise ltC)
  (hm: ∀c,c∈L↔c∈bJ W H s l id∨(c=f∧ofN W s f.1 f.2=id)∨(c=t∧ofN W s t.1 t.2=id)):L=inC W H s (aD W H s l) f t id:=by
 refine fJ hs (lF _ _ _ _ _ _ _) fun c=> ?_
 rw[hm,nL (checkE_ok.1 g.ok).1]
 unfold bJ
 rw[gH g.right hid.1 hid.2]
 unfold inK
 constructor
 ·rintro(⟨⟨h1,h2⟩,h3⟩|⟨rfl,h⟩|⟨rfl,h⟩)
  ·exact⟨⟨h1,h2⟩, .inr (.inr h3)⟩
  ·exact⟨⟨hf,h⟩, .inl rfl⟩
  ·exact⟨⟨ht,h⟩, .inr (.inl rfl)⟩
 ·rintro⟨⟨h1,h2⟩,rfl|rfl|h3⟩
  ·exact .inr (.inl ⟨rfl,h2⟩)
  ·exact .inr (.inr ⟨rfl,h2⟩)
  ·exact .inl ⟨⟨h1,h2⟩,h3⟩
theorem aC2 {W H s:Int} {l:List Int} (g:Good W H s l) {f t:aB} {id:Int} (hid:0≤id∧id<cnt W H s): ∀c∈bJ W H s l id,c∈inC W H s (aD W H s l) f t id:=fun c hc=>by
 unfold bJ at hc
 rw[gH g.right hid.1 hid.2]at hc
 exact(nL (checkE_ok.1 g.ok).1).2 ⟨hc.1, .inr (.inr hc.2)⟩
theorem aLz {W H s:Int} {l:List Int} (g:Good W H s l) {f t:aB} {id:Int} (hid:0≤id∧id<cnt W H s) (hl:(inC W H s (aD W H s l) f t id).length=(bJ W H s l id).length):inC W H s (aD W H s l) f t id=bJ W H s l id:=by
 have hc:(bJ W H s l id).Pairwise ltC:=kZ _ _ _ _ _
 exact fJ (lF _ _ _ _ _ _ _) hc fun c=>⟨aKq (jI hc) (aC2 g hid) (by omega) c,aC2 g hid c⟩
theorem uM {W H s:Int} {l:List Int} (g:Good W H s l) {f t:aB} {id:Int} (hid:0≤id∧id<cnt W H s):(inC W H s (aD W H s l) f t id).length≤258:=by
 have h1:=rG (l:=l) g hid
 have h2:=tX (l:=inC W H s (aD W H s l) f t id) (l':=f::t::bJ W H s l id) (jI (lF _ _ _ _ _ _ _)) (fun c hc=>by
  obtain⟨⟨h1,h2⟩,h3⟩:=(nL (checkE_ok.1 g.ok).1).1 hc
  rcases h3 with rfl|rfl|h3
  ·simp
  ·simp
  ·have:c∈bJ W H s l id:=by unfold bJ;rw[gH g.right hid.1 hid.2];exact⟨⟨h1,h2⟩,h3⟩
   simp[this])
 simp only[List.length_cons]at h2
 omega
theorem aLf {W H s:Int} {l:List Int} (g:Good W H s l) {f t:aB} {id:Int} (hid:0≤id∧id<cnt W H s):dH W H l.length W H s id (inC W H s (aD W H s l) f t id)=0:=by
 refine innerE_ok.2 ⟨g.ok,rfl,rfl,g.right,hid,pO fun k hk=> ?_⟩
 have hst:=lF W H s (aD W H s l) f t id
 have hmem: ∀c∈inC W H s (aD W H s l) f t id,fS W H s id c=true:=fun c hc=>by
  obtain⟨⟨h1,h2⟩,_⟩:=(nL (checkE_ok.1 g.ok).1).1 hc
  unfold fS
  rw[h1,h2]
  simp
 generalize inC W H s (aD W H s l) f t id=C at *
 have hin:=hmem _ (List.getElem_mem hk)
 unfold cE
 have e:C.getD k (0,0)=C[k]:=by simp[List.getD_eq_getElem?_getD,hk]
 rw[e,if_neg (by rw[hin];simp)]
 rw[if_neg]
 rintro⟨h0,hr⟩
 have e2:C.getD (k-1) (0,0)=C[k-1]:=by
  have:k-1<C.length:=by omega
  simp[List.getD_eq_getElem?_getD,this]
 rw[e2]at hr
 have hlt:=List.pairwise_iff_getElem.1 hst (k-1) k (by omega) hk (by omega)
 unfold ltC at hlt
 unfold mL at hr
 simp at hr
 omega
theorem zK {W H s:Int} {l:List Int} {a:aB} (L:eZ W H s (ofN W s a.1 a.2) l) (cs:List aB):fI L cs a=cs.map (cA W H s l a):=by
 unfold fI
 refine List.map_congr_left fun q _=> ?_
 unfold cA
 rw[dif_pos L]
end Go.Proofs.YtaellcgglldjaaaGreat

