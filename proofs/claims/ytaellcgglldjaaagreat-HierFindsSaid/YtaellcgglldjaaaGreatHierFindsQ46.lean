/- Part of a proof: HierU HierW. -/
import Derived.Test.YtaellcgglldjaaaGreatHierFindsQ45
import Derived.Test.YtaellcgglldjaaaGreatHierFindsQ35
import Derived.Test.YtaellcgglldjaaaGreatHierFindsQ22
import Derived.Test.YtaellcgglldjaaaGreatHierFindsQ07
import Derived.Test.YtaellcgglldjaaaGreatHierFindsQ11
set_option linter.all false
set_option linter.unusedVariables false
set_option linter.unusedSimpArgs false
namespace Go.Proofs.YtaellcgglldjaaaGreat
open Go.RowKit
def noneH:AS:={st:=fun _=>0,g:=fun _=>0,came:=fun _=>0,cnt:=0}
theorem aEm (s:Nat):noneH.put s 0 (-1)=aY s:=by
 unfold noneH AS.put aY
 congr 1
 funext v
 unfold iT
 split<;>rfl
theorem aJ1 {w0 w3 w4:World} {lb h mg mc sb n:Nat} {W:Int} (hh:HeapIs (fun k=>w0.heap.size≤k) w3 h []) (hz:w0.heap.size≤w3.heap.size) (hmg:mg=w3.heap.size) (hmc:mc=w3.heap.size+1) (hsb:sb=w3.heap.size+2)
  (hw:w4=((w3.alloc (.map #[] 0)).alloc (.map #[] 0)).alloc (.cells #[.pointer (some ⟨lb,0,none⟩), .pointer (some ⟨h,0,none⟩), .map (some mg), .map (some mc)] 108)):
  HMem w4 sb lb h mg mc W n (fun j=>w0.heap.size≤j∧j≠sb∧j≠mg∧j≠mc) noneH:=by
 have hz4:w4.heap.size=w3.heap.size+3:=by rw[hw];simp
 have hx:Ext w3 w4:=by rw[hw];exact((((Ext.refl _).alloc _).alloc _).alloc _)
 exact {
  sea:=by rw[hw,hsb];exact Blk.new_ (by simp)
  gm:=⟨0,Nat.zero_le _,by
   have h1:MapIn Tryz.prog KU (w3.alloc (.map #[] 0)) w3.heap.size (fun _=>none) 0:=MapIn.made w3
   rw[hw,hmg]
   exact(h1.ext (((Ext.refl _).alloc _).alloc _)).congr (fun z=>by unfold gF noneH;simp)⟩
  cm:=⟨0,fun _=>none,Nat.zero_le _,by
   have h1:=MapL.made (w3.alloc (.map #[] 0))
   have e:(w3.alloc (.map #[] 0)).heap.size=w3.heap.size+1:=by simp
   rw[e]at h1
   rw[hw,hmc]
   exact h1.ext ((Ext.refl _).alloc _),⟨fun _ _=>rfl,fun v hv=>absurd rfl hv⟩⟩
  heap:=⟨[],(hh.mono (S':=fun j=>w0.heap.size≤j∧j≠sb∧j≠mg∧j≠mc) (fun k hk hS=>⟨hS,by omega,by omega,by omega⟩)).ext hx,⟨by simp[ids],(fun t ht=>by cases ht),(fun v hv=>by unfold noneH at hv;cases hv)⟩⟩
  ns:=⟨fun y=>y.2.1 rfl,fun y=>y.2.2.1 rfl,fun y=>y.2.2.2 rfl,by omega,by omega,by omega⟩
  nw:=fun j hj=>⟨by omega,by omega,by omega,by omega⟩}
def aM2 (W H s:Int) (l:List Int) (f t:aB) (b:Int) (base:Nat) (e:Ending) (w':World):Prop:=
 ∃(p:List aB) (c k er:Int) (v:Value),HSrch W H s l f t b p c k er∧e= .returned (.tuple #[.agg #[v, .int .u64 c, .int .i64 k], .int .i64 er])∧Own cellE w' base 28 v p
theorem aEd (s:Nat):oP (aY s):=fun u v hu _=>by
 unfold aY bS at hu
 simp only at hu
 split at hu<;>omega
set_option maxRecDepth 100000 in
set_option maxHeartbeats 8000000 in
theorem tL {w:World} {p:Spot} {R:Nat→Prop} {W H s:Int} {l:List Int} (h:WorldAt w p R W H s l) (g:Good W H s l) (hl:l.length≤150) (hgl:(aD W H s l).length≤45000) (f t:aB) (b:Int):
  Calls Tryz.prog 12 #[.pointer (some ⟨p.b,0,none⟩), .agg #[.int .i64 f.1, .int .i64 f.2], .agg #[.int .i64 t.1, .int .i64 t.2], .int .i64 b] w fun e w'=>Ext w w'∧aM2 W H s l f t b w.heap.size e w':=by
 have HLK:=aA (fun(w':World) (x:Ext w w')=>aJj (h.ext x) f t [] none 0 (aEs _ _) (by simp))
 obtain⟨pb,hpb⟩: ∃z,p.b=z:=⟨_,rfl⟩
 rw[hpb]at HLK⊢
 obtain⟨fx,fy⟩:=f
 obtain⟨tx,ty⟩:=t
 simp only[List.length_nil]at HLK
 clear h hpb
 simp only
 go_enter Tryz.func12,Tryz.ntmps12
 go_upto_region 1 with(fail)
 obtain⟨w1,hw1⟩: ∃z,z=((w.alloc (.cells #[.int .i64 fx, .int .i64 fy] 28)).alloc (.cells #[.int .i64 tx, .int .i64 ty] 28)).alloc (.cells #[.slice none 0 0, .int .u64 0, .int .i64 0] 40):=⟨_,rfl⟩
 have X1:=aA (show Ext w w1 by rw[hw1];exact(((Ext.refl _).alloc _).alloc _).alloc _)
 have F1:=aA (show Blk w1 w.heap.size 28 #[.int .i64 fx, .int .i64 fy] by rw[hw1];exact(Blk.new_ rfl).over.over)
 have T1:=aA (show Blk w1 (w.heap.size+1) 28 #[.int .i64 tx, .int .i64 ty] by rw[hw1];exact(Blk.new_ (by simp)).over)
 have R1:=aA (show Blk w1 (w.heap.size+1+1) 40 #[.slice none 0 0, .int .u64 0, .int .i64 0] by rw[hw1];exact Blk.new_ (by simp))
 rw[←hw1]
 obtain⟨fb,hfb⟩: ∃z,w.heap.size=z:=⟨_,rfl⟩
 have HFB:=aA hfb
 have HZ1:=aA (show w1.heap.size=fb+3 by rw[hw1,←hfb];simp)
 rw[hfb]at F1 T1 R1⊢
 clear hw1 hfb
 have f0:=F1.out.at 0 rfl;have f1:=F1.out.at 1 rfl;have fz:=F1.out.lt
 have t0:=T1.out.at 0 rfl;have t1:=T1.out.at 1 rfl;have tz:=T1.out.lt
 go_wp2_with fail
 refine(HLK.out _ X1.out).mono ?_
 rintro e w2 (⟨h1,rfl,x2⟩|⟨h1,lb,fa,fc,ga,gc,rfl,x2,L⟩)
 ·have X2:=aA (X1.out.trans x2)
  have R2:=aA (R1.out.ext x2)
  have H1:=aA h1
  clear x2 h1 f0 f1 fz t0 t1 tz
  have r0:=R2.out.at 0 rfl;have r1:=R2.out.at 1 rfl;have r2:=R2.out.at 2 rfl;have rz:=R2.out.lt
  have g0:=R2.out.frozen 0
  have g1:=R2.out.frozen 1
  have g2:=R2.out.frozen 2
  go_wp2_with fail
  refine bodyPost_ret (v:= .tuple #[.agg #[.slice none 0 0, .int .u64 0, .int .i64 0], .int .i64 10]) (by simp[results,Tryz.results12,go_sem, *]) rfl ?_
  refine⟨((X2.out.setCell (p:=⟨fb+1+1,0,none⟩) (by have:=HFB.out;simp;omega) _).setCell (p:=⟨fb+1+1,1,none⟩) (by have:=HFB.out;simp;omega) _).setCell (p:=⟨fb+1+1,2,none⟩) (by have:=HFB.out;simp;omega) _,[],0,0,10,_, .inl ⟨fun hh=> ?_,rfl,rfl,rfl,rfl⟩,rfl,Own.nil _ _ _ _⟩
  have:=H1.out
  simp[hh.1,hh.2]at this
 have X2:=aA (X1.out.trans x2)
 have R2:=aA (R1.out.ext x2)
 have F2:=aA (F1.out.ext x2)
 have T2:=aA (T1.out.ext x2)
 have HIN:=aA (show inB W H fx fy=true∧inB W H tx ty=true by simpa using h1)
 have HL:=aA L
 have z2:=x2.size
 have HZ2:=aA z2
 clear x2 h1 L f0 f1 fz t0 t1 tz F1 T1 R1 z2
 have r0:=R2.out.at 0 rfl;have r1:=R2.out.at 1 rfl;have r2:=R2.out.at 2 rfl;have rz:=R2.out.lt
 have f0:=F2.out.at 0 rfl;have f1:=F2.out.at 1 rfl;have fz:=F2.out.lt
 have t0:=T2.out.at 0 rfl;have t1:=T2.out.at 1 rfl;have tz:=T2.out.lt
 have g0:=R2.out.frozen 0
 have g1:=R2.out.frozen 1
 have g2:=R2.out.frozen 2
 by_cases hb:b<0
 ·have hd:decide (b<0)=true:=decide_eq_true hb
  have HB:=aA hb
  clear hb
  go_wp2_with fail
  refine bodyPost_ret (v:= .tuple #[.agg #[.slice none 0 0, .int .u64 0, .int .i64 0], .int .i64 1]) (by simp[results,Tryz.results12,go_sem, *]) rfl ?_
  exact⟨((X2.out.setCell (p:=⟨fb+1+1,0,none⟩) (by have:=HFB.out;simp;omega) _).setCell (p:=⟨fb+1+1,1,none⟩) (by have:=HFB.out;simp;omega) _).setCell (p:=⟨fb+1+1,2,none⟩) (by have:=HFB.out;simp;omega) _,[],0,0,1,_, .inr (.inl ⟨HIN.out,HB.out,rfl,rfl,rfl,rfl⟩),rfl,Own.nil _ _ _ _⟩
 have hd:decide (b<0)=false:=decide_eq_false hb
 have HB:=aA hb
 have HC1:=aA (fun(w':World) (x:Ext w2 w')=>oR (HL.out.ext x) (c:=(fx,fy)) HIN.out.1)
 have HC2:=aA (fun(w':World) (x:Ext w2 w')=>oR (HL.out.ext x) (c:=(tx,ty)) HIN.out.2)
 obtain⟨c1,hc1⟩: ∃z,aL l W (fx,fy)=z:=⟨_,rfl⟩
 obtain⟨c2,hc2⟩: ∃z,aL l W (tx,ty)=z:=⟨_,rfl⟩
 have HCC:=aA (And.intro hc1 hc2)
 rw[hc1]at HC1
 rw[hc2]at HC2
 simp only at HC1 HC2
 clear hb hc1 hc2
 by_cases hz1:c1=0
 ·subst hz1
  clear HC2
  go_wp2_with fail
  refine(HC1.out _ (Ext.refl _)).mono ?_
  rintro e w5 ⟨rfl,x5⟩
  have X5:=aA (X2.out.trans x5)
  have R5:=aA (R2.out.ext x5)
  clear x5 r0 r1 r2 rz f0 f1 fz t0 t1 tz g0 g1 g2
  have r0:=R5.out.at 0 rfl;have r1:=R5.out.at 1 rfl;have r2:=R5.out.at 2 rfl;have rz:=R5.out.lt
  have g0:=R5.out.frozen 0
  have g1:=R5.out.frozen 1
  have g2:=R5.out.frozen 2
  go_wp2_with fail
  refine bodyPost_ret (v:= .tuple #[.agg #[.slice none 0 0, .int .u64 0, .int .i64 0], .int .i64 22]) (by simp[results,Tryz.results12,go_sem, *]) rfl ?_
  exact⟨((X5.out.setCell (p:=⟨fb+1+1,0,none⟩) (by have:=HFB.out;simp;omega) _).setCell (p:=⟨fb+1+1,1,none⟩) (by have:=HFB.out;simp;omega) _).setCell (p:=⟨fb+1+1,2,none⟩) (by have:=HFB.out;simp;omega) _,[],0,0,22,_, .inr (.inr (.inl ⟨HIN.out,by have:=HB.out;omega, .inl HCC.out.1,rfl,rfl,rfl,rfl⟩)),rfl,Own.nil _ _ _ _⟩
 have hq1:(c1==0)=false:=by simpa using hz1
 have HZ1c:=aA hz1
 clear hz1
 go_wp2_with fail
 refine(HC1.out _ (Ext.refl _)).mono ?_
 rintro e w4 ⟨rfl,x4⟩
 have X4:=aA x4
 have R4:=aA (R2.out.ext x4)
 have F4:=aA (F2.out.ext x4)
 have T4:=aA (T2.out.ext x4)
 clear x4 r0 r1 r2 rz f0 f1 fz t0 t1 tz g0 g1 g2
 have t0:=T4.out.at 0 rfl;have t1:=T4.out.at 1 rfl;have tz:=T4.out.lt
 by_cases hz2:c2=0
 ·subst hz2
  go_wp2_with fail
  refine(HC2.out _ X4.out).mono ?_
  rintro e w5 ⟨rfl,x5⟩
  have X5:=aA (X2.out.trans (X4.out.trans x5))
  have R5:=aA (R4.out.ext x5)
  clear x5 t0 t1 tz
  have r0:=R5.out.at 0 rfl;have r1:=R5.out.at 1 rfl;have r2:=R5.out.at 2 rfl;have rz:=R5.out.lt
  have g0:=R5.out.frozen 0
  have g1:=R5.out.frozen 1
  have g2:=R5.out.frozen 2
  go_wp2_with fail
  refine bodyPost_ret (v:= .tuple #[.agg #[.slice none 0 0, .int .u64 0, .int .i64 0], .int .i64 22]) (by simp[results,Tryz.results12,go_sem, *]) rfl ?_
  exact⟨((X5.out.setCell (p:=⟨fb+1+1,0,none⟩) (by have:=HFB.out;simp;omega) _).setCell (p:=⟨fb+1+1,1,none⟩) (by have:=HFB.out;simp;omega) _).setCell (p:=⟨fb+1+1,2,none⟩) (by have:=HFB.out;simp;omega) _,[],0,0,22,_, .inr (.inr (.inl ⟨HIN.out,by have:=HB.out;omega, .inr HCC.out.2,rfl,rfl,rfl,rfl⟩)),rfl,Own.nil _ _ _ _⟩
 have hq2:(c2==0)=false:=by simpa using hz2
 have HZ2c:=aA hz2
 clear hz2
 go_wp2_with fail
 refine(HC2.out _ X4.out).mono ?_
 rintro e w5 ⟨rfl,x5⟩
 have X25:=aA (X4.out.trans x5)
 have R5:=aA (R4.out.ext x5)
 have F5:=aA (F4.out.ext x5)
 clear x5 t0 t1 tz F4 T4 R4 X4 HC1 HC2
 have hmm:= @run_makeMap Tryz.prog
 have HLN:=aA (iW (c:=(fx,fy)) (checkE_ok.1 g.ok).2 HIN.out.1)
 have hfn:(fx,fy)∈aN W H (aD W H s l) (fx,fy) (tx,ty):=by
  have:=inB_true.1 HIN.out.1
  exact nodesL_mem.2 ⟨by simp only;omega, .inl rfl⟩
 have HI0:=aA (tO (G:=hGr g hl (fx,fy) (tx,ty)) (s:=aC W (fx,fy)) ((kG g).2 ⟨_,hfn,rfl⟩))
 clear hfn
 go_wp2_with fail
 refine(sH _).mono ?_
 rintro e w6 ⟨hp,rfl,hh1,x6,hi⟩
 have X26:=aA (X25.out.trans x6)
 have z56:=X25.out.size
 have HI:=aA (hi.mono (S':=fun k=>w2.heap.size≤k) (fun k _ h=>by omega))
 have F6:=aA (F5.out.ext x6)
 have R6:=aA (R5.out.ext x6)
 clear hi x6 hh1 z56 X25 F5 R5
 have f0:=F6.out.at 0 rfl;have f1:=F6.out.at 1 rfl;have fz:=F6.out.lt
 go_upto_region 9 with(fail)
 obtain⟨w7,hw7⟩: ∃z,z=((w6.alloc (.map #[] 0)).alloc (.map #[] 0)).alloc (.cells #[.pointer (some ⟨lb,0,none⟩), .pointer (some ⟨hp,0,none⟩), .map (some w6.heap.size), .map (some (w6.heap.size+1))] 108):=⟨_,rfl⟩
 have X67:=aA (show Ext w6 w7 by rw[hw7];exact((((Ext.refl _).alloc _).alloc _).alloc _))
 have HM7:=aA (aJ1 (W:=W) (n:=l.length) (sb:=w6.heap.size+1+1) (mg:=w6.heap.size) (mc:=w6.heap.size+1) HI.out X26.out.size rfl rfl rfl hw7)
 have X27:=aA (X26.out.trans X67.out)
 have F7:=aA (F6.out.ext X67.out)
 have R7:=aA (R6.out.ext X67.out)
 rw[←hw7]
 clear hw7 f0 f1 fz F6 R6 hmm
 obtain⟨sb,hsb⟩: ∃z,w6.heap.size+1+1=z:=⟨_,rfl⟩
 obtain⟨mg,hmg⟩: ∃z,w6.heap.size=z:=⟨_,rfl⟩
 have HNUM:=aA (show sb=mg+2∧w2.heap.size≤mg∧w6.heap.size=mg by have:=X26.out.size;omega)
 rw[hsb,hmg]at HM7
 rw[hsb]
 clear hsb hmg
 have HRE:=aA (rK HL.out X27.out HM7.out (aC W (fx,fy)) HLN.out (0,0) 0 0 (-1) (by omega) (fun u hu=>by omega) (fun u hu=>absurd rfl hu) (by unfold noneH;simp) (fun h2=>by unfold noneH at h2;cases h2))
 rw[bV (c:=(fx,fy)) HIN.out.1,if_pos (show noneH.takes (aC W (fx,fy)) 0 from .inl rfl),aEm]at HRE
 unfold cD at HRE
 simp only at HRE
 have f0:=F7.out.at 0 rfl;have f1:=F7.out.at 1 rfl;have fz:=F7.out.lt
 go_wp2_with fail
 refine HRE.out.mono ?_
 rintro e w8 ⟨rfl,m8,t8⟩
 have M8:=aA m8
 have T8:=aA t8
 have X28:Hid (Ext w2 w8):=aA ((Touch.of_ext (S:=fun _=>False) X27.out).after t8 (fun k hk h=>by
  have:=HNUM.out
  rcases h with h|h|h
  ·have:=h.1;omega
  ·omega
  omega)).ext
 have R8:=aA (R7.out.touch t8 (fun h=>by
  have h1:=R2.out.lt
  have:=HNUM.out
  rcases h with h|h|h
  ·have:=h.1;omega
  ·omega
  omega))
 have HRU:=aA (aGh HL.out hl g hgl X28.out (fun j h=>h.1) (by have:=HNUM.out;omega) M8.out HI0.out (aEd _) rfl b)
 clear m8 t8 f0 f1 fz HRE
 go_wp2_with fail
 refine HRU.out.mono ?_
 rintro e w9 ⟨⟨pp,cc,kk,er,v,hrun,rfl,ho⟩,t9⟩
 have HRUN:=aA hrun
 have X29:Hid (Ext w2 w9):=aA ((Touch.of_ext (S:=fun _=>False) X28.out).after t9 (fun k hk h=>by
  have:=HNUM.out
  rcases h with h|h|h
  ·have:=h.1;omega
  ·omega
  omega)).ext
 have R9:=aA (R8.out.touch t9 (fun h=>by
  have h1:=R2.out.lt
  have:=HNUM.out
  rcases h with h|h|h
  ·have:=h.1;omega
  ·omega
  omega))
 have z8:=X28.out.size
 have HO:=aA (ho.lower (base':=w2.heap.size) (by omega))
 obtain⟨va,vc,rfl⟩:=ho.slice
 clear hrun ho t9 z8
 have r0:=R9.out.at 0 rfl;have r1:=R9.out.at 1 rfl;have r2:=R9.out.at 2 rfl;have rz:=R9.out.lt
 have g0:=R9.out.frozen 0
 have g1:=R9.out.frozen 1
 have g2:=R9.out.frozen 2
 have tF:Touch (fun j=>j=fb+1+1) w9 (((w9.setCell ⟨fb+1+1,0,none⟩ (.slice va pp.length vc)).setCell ⟨fb+1+1,1,none⟩ (.int .u64 cc)).setCell ⟨fb+1+1,2,none⟩ (.int .i64 kk)):=(((Touch.refl (fun j=>j=fb+1+1) w9).setCell (p:=⟨fb+1+1,0,none⟩) (.inl rfl) _).setCell (p:=⟨fb+1+1,1,none⟩) (.inl rfl) _).setCell (p:=⟨fb+1+1,2,none⟩) (.inl rfl) _
 have HOW:=aA (HO.out.touch tF (fun k hk e=>by have:=(aF HO.out hk).1;have:=R2.out.lt;omega))
 have HXW:=aA (((Touch.of_ext (S:=fun _=>False) (X2.out.trans X29.out)).after tF (fun k hk e=>by have:=HFB.out;omega)).ext)
 clear tF
 go_wp2_with fail
 refine bodyPost_ret (v:= .tuple #[.agg #[.slice va pp.length vc, .int .u64 cc, .int .i64 kk], .int .i64 er]) (by simp[results,Tryz.results12,go_sem, *]) rfl ?_
 refine⟨HXW.out,pp,cc,kk,er,_, .inr (.inr (.inr ⟨HIN.out,by have:=HB.out;omega,fun h=> ?_,g,hl,HRUN.out⟩)),rfl,HOW.out.lower (by have:=X2.out.size;have:=HFB.out;omega)⟩
 rcases h with h|h
 ·exact HZ1c.out (HCC.out.1.symm.trans h)
 exact HZ2c.out (HCC.out.2.symm.trans h)
end Go.Proofs.YtaellcgglldjaaaGreat

namespace Go.Proofs.YtaellcgglldjaaaGreat
open Go.RowKit
def xQ (legs:Nat→List (Nat×Int)) (W:Int) (n t:Nat) (b:Int):Nat→AS→Option (List Nat×Int×Int×Int)
 |0,_=>none
 |k+1,A=>match gO W (fun _=>0) A n with
  |none=>some ([],0,A.cnt,22)
  |some v=>if A.cnt=b then some ([],0,A.cnt,23) else if v=t then(kV A.came (n+1) t).map (fun l=>(l,A.g t,A.cnt+1,0)) else xQ legs W n t b k (rls v (A.settle v) (legs v))
theorem aDm {W:Int} {A:AS} {n v:Nat} (hb:gO W (fun _=>0) A n=some v) (hlt: ∀u,A.st u=1→u<n):eL W (fun _=>0) A v:=
 ⟨(jH hb).2.1,fun u hu=>(jH hb).2.2 u (hlt u hu) hu⟩
theorem aAe {G:LGr} {legs:Nat→List (Nat×Int)} {W:Int} {t:Nat} {b:Int} {P:List Nat→List aB} (hlegs: ∀v,G.op v=true→G.legs v=legs v): ∀{k:Nat} {A:AS} {p:List Nat} {c n e:Int},(∀u,A.st u=1→G.op u=true)→xQ legs W G.n t b k A=some (p,c,n,e)→e=0→LRun G W t b P A (P p) c n e
 |0,_,_,_,_,_,_,hr,_=>by cases hr
 |k+1,A,p,c,n,e,hlt,hr,he=>by
  unfold xQ at hr
  have hlt2: ∀u,A.st u=1→u<G.n:=fun u hu=>G.lt u (hlt u hu)
  cases hb:gO W (fun _=>0) A G.n
  ·rw[hb]at hr
   cases hr
   cases he
  rename_i v
  rw[hb]at hr
  simp only at hr
  have hB:=aDm hb hlt2
  split at hr
  ·next h1=>cases hr;cases he
  next h1=>
  split at hr
  ·next h2=>
   subst h2
   cases hc:kV A.came (G.n+1) v
   ·rw[hc]at hr;cases hr
   rw[hc]at hr
   cases hr
   exact .found hB h1 (pV hc)
  next h2=>
  have hov:=hlt v hB.1
  rw[←hlegs v hov]at hr
  refine .next hB h1 h2 (aAe hlegs (fun u hu=> ?_) hr he)
  rcases (aK7 G A v u).2.2 hu with k|⟨x,k⟩
  ·exact hlt u k
  exact(G.leg v hov _ k).1
def iA (t:List Int) (v:Nat):Int:=t.getD v aJ
def lE (G:Net) (s:Nat) (t:List Int):Bool:=
 decide (t.length=G.n)&&decide (iA t s=0)&&(List.range G.n).all (fun v=>(G.op v||decide (iA t v=aJ))&&decide (0≤iA t v)&&decide (iA t v≤aJ)&&
  (!G.op v||decide (v=s)||((G.adj v).all (fun u=> !G.op u||decide (aJ≤iA t u+G.cost v)||decide (iA t v≤iA t u+G.cost v))&&(decide (aJ≤iA t v)||(G.adj v).any (fun u=>G.op u&&decide (iA t u+G.cost v=iA t v))))))
theorem aAo {G:Net} {s:Nat} {t:List Int} (h:lE G s t=true):IsFar G s (iA t):=by
 unfold lE at h
 simp only[Bool.and_eq_true,decide_eq_true_eq,List.all_eq_true,List.mem_range]at h
 obtain⟨⟨h8,h0⟩,ha⟩:=h
 have hbig: ∀v,G.n≤v→iA t v=aJ:=fun v hv=>by
  unfold iA
  rw[List.getD_eq_getElem?_getD,List.getElem?_eq_none (by omega)]
  rfl
 have hlt: ∀v,G.op v=true→v<G.n:=fun v hv=>G.lt v hv
 refine⟨fun _=>h0,?_,?_,?_,?_,?_⟩
 ·intro v hv
  by_cases h:v<G.n
  ·have:=(ha v h).1.1.1
   rw[hv]at this
   simpa using this
  exact hbig v (by omega)
 ·intro v
  by_cases h:v<G.n
  ·exact(ha v h).1.1.2
  rw[hbig v (by omega)];decide
 ·intro v
  by_cases h:v<G.n
  ·exact(ha v h).1.2
  rw[hbig v (by omega)];exact Int.le_refl _
 ·intro v hv hs u hu huo hl
  have h1:=(ha v (hlt v hv)).2
  rw[hv]at h1
  simp only[Bool.not_true,Bool.false_or,Bool.or_eq_true,decide_eq_true_eq,Bool.and_eq_true,List.all_eq_true]at h1
  rcases h1 with h1|h1
  ·exact absurd h1 hs
  rcases h1.1 u hu with(h2|h2)|h2
  ·rw[huo]at h2;cases h2
  ·omega
  exact h2
 intro v hv hs hl
 have h1:=(ha v (hlt v hv)).2
 rw[hv]at h1
 simp only[Bool.not_true,Bool.false_or,Bool.or_eq_true,decide_eq_true_eq,Bool.and_eq_true,List.any_eq_true]at h1
 rcases h1 with h1|h1
 ·exact absurd h1 hs
 rcases h1.2 with h2|⟨u,u1,u2,u3⟩
 ·omega
 exact⟨u,u1,u2,u3⟩
def aw15:List Int:=[1,1,1,1,1,1,1,1]
theorem aw15_good:Good 4 2 2 aw15:=⟨by decide,by decide,by intro x hx;simp[aw15]at hx;omega⟩
theorem sW:aD 4 2 2 aw15=[((1,0),(2,0))]:=(wN (N:=2) (by decide) (by decide)).symm.trans (by decide+kernel)
theorem nZ:aN 4 2 [((1,0),(2,0))] (0,1) (3,1)=[(1,0),(2,0),(0,1),(3,1)]:=by decide+kernel
def fG:Int:=18446744073709551615
theorem yA (id:Int) (h:0≤id∧id<cnt 4 2 2):fE 4 2 2 id aw15:=aw15_good.box h
theorem o10:ofN 4 2 (1,0).1 (1,0).2=0:=by decide
theorem o20:ofN 4 2 (2,0).1 (2,0).2=1:=by decide
theorem o01:ofN 4 2 (0,1).1 (0,1).2=0:=by decide
theorem o31:ofN 4 2 (3,1).1 (3,1).2=1:=by decide
theorem nW:fE 4 2 2 0 aw15:=yA 0 (by decide)
theorem nX:fE 4 2 2 1 aw15:=yA 1 (by decide)
theorem oS {a:aB} {id:Int} (h:ofN 4 2 a.1 a.2=id) (L:fE 4 2 2 id aw15) {t:List Int} (ht:lE (aE (W:=4) (H:=2) (l:=aw15) L) (aC 4 a) t=true) (c:aB):cA 4 2 2 aw15 a c=iA t (aC 4 c):=by
 subst h
 unfold cA
 rw[dif_pos L]
 exact(oU L (aAo ht) _).symm
theorem tb4:lE (aE (W:=4) (H:=2) (l:=aw15) nW) 4 [1,2,fG,fG,0,1,fG,fG]=true:=by decide+kernel
theorem tb1:lE (aE (W:=4) (H:=2) (l:=aw15) nW) 1 [1,0,fG,fG,2,1,fG,fG]=true:=by decide+kernel
theorem tb2:lE (aE (W:=4) (H:=2) (l:=aw15) nX) 2 [fG,fG,0,1,fG,fG,1,2]=true:=by decide+kernel
theorem tb7:lE (aE (W:=4) (H:=2) (l:=aw15) nX) 7 [fG,fG,2,1,fG,fG,1,0]=true:=by decide+kernel
theorem aKy:cB 4 2 2 aw15 [((1,0),(2,0))] (0,1) (3,1) (0,1)=[((1,0),2)]:=by
 have hd:=oS (a:=(0,1)) o01 nW tb4
 unfold cB bL
 rw[nZ]
 simp only[hd]
 decide+kernel
theorem aKw:cB 4 2 2 aw15 [((1,0),(2,0))] (0,1) (3,1) (1,0)=[((0,1),2),((2,0),1)]:=by
 have hd:=oS (a:=(1,0)) o10 nW tb1
 unfold cB bL
 rw[nZ]
 simp only[hd]
 decide+kernel
theorem aKx:cB 4 2 2 aw15 [((1,0),(2,0))] (0,1) (3,1) (2,0)=[((3,1),2),((1,0),1)]:=by
 have hd:=oS (a:=(2,0)) o20 nX tb2
 unfold cB bL
 rw[nZ]
 simp only[hd]
 decide+kernel
theorem aKz:cB 4 2 2 aw15 [((1,0),(2,0))] (0,1) (3,1) (3,1)=[((2,0),2)]:=by
 have hd:=oS (a:=(3,1)) o31 nX tb7
 unfold cB bL
 rw[nZ]
 simp only[hd]
 decide+kernel
def pS (v:Nat):List (Nat×Int):=if v=4 then[(1,2)] else if v=1 then[(4,2),(2,1)] else if v=2 then[(7,2),(1,1)] else[(2,2)]
theorem nY:aw15.length≤150:=by decide
theorem aB3 (v:Nat) (hv:(hGr aw15_good nY (0,1) (3,1)).op v=true):(hGr aw15_good nY (0,1) (3,1)).legs v=pS v:=by
 obtain⟨c,hc,rfl⟩:=(kG aw15_good).1 hv
 have hin:=dJ aw15_good hc
 show iI 4 2 2 aw15 (aD 4 2 2 aw15) (0,1) (3,1) (aC 4 c)=_
 unfold iI
 rw[bV hin]
 rw[sW]at hc⊢
 rw[nZ]at hc
 simp only[List.mem_cons,List.not_mem_nil,or_false]at hc
 rcases hc with rfl|rfl|rfl|rfl
 ·rw[aKw];decide
 ·rw[aKx];decide
 ·rw[aKy];decide
 rw[aKz];decide
theorem aDg {u v:aB} {id:Int} (h:ofN 4 2 u.1 u.2=id) (h2:ofN 4 2 v.1 v.2=id) (L:fE 4 2 2 id aw15) {t:List Int} (ht:lE (aE (W:=4) (H:=2) (l:=aw15) L) (aC 4 u) t=true) {p:List Nat} (hp:BackP (aE (W:=4) (H:=2) (l:=aw15) L) (iA t) (aC 4 v) p):cS 4 2 2 aw15 u v=(p.reverse.map (aG 4)).drop 1:=by
 subst h
 have e:cL (W:=4) (H:=2) (l:=aw15) L u=iA t:=funext fun x=>(oU (W:=4) (H:=2) (l:=aw15) L (aAo ht) x).symm
 exact vC h2 L (by rw[e];exact hp)
theorem aL1:cS 4 2 2 aw15 (2,0) (3,1)=[(3,0),(3,1)]:=by
 rw[aDg (u:=(2,0)) (v:=(3,1)) o20 o31 nX tb2 (p:=[7,3,2]) (.step (by decide+kernel) (u:=3) (by decide+kernel) (.step (by decide+kernel) (u:=2) (by decide+kernel) (.done (by decide+kernel))))]
 decide+kernel
theorem aL2:cS 4 2 2 aw15 (1,0) (2,0)=[(2,0)]:=nI (by decide)
theorem aL3:cS 4 2 2 aw15 (0,1) (1,0)=[(1,1),(1,0)]:=by
 rw[aDg (u:=(0,1)) (v:=(1,0)) o01 o10 nW tb4 (p:=[1,5,4]) (.step (by decide+kernel) (u:=5) (by decide+kernel) (.step (by decide+kernel) (u:=4) (by decide+kernel) (.done (by decide+kernel))))]
 decide+kernel
theorem aFg:eB 4 2 2 aw15 (0,1) [7,2,1,4]=[(0,1),(1,1),(1,0),(2,0),(3,0),(3,1)]:=by
 unfold eB
 show(0,1)::fH (fun u v=>cS 4 2 2 aw15 (aG 4 u) (aG 4 v)) (cS 4 2 2 aw15 (aG 4 4) (aG 4 1)++(cS 4 2 2 aw15 (aG 4 1) (aG 4 2)++(cS 4 2 2 aw15 (aG 4 2) (aG 4 7)++[]))) [4]=_
 rw[show aG 4 4=(0,1) by decide,show aG 4 1=(1,0) by decide,show aG 4 2=(2,0) by decide,show aG 4 7=(3,1) by decide,aL1,aL2,aL3]
 rfl
theorem aFh:HSrch 4 2 2 aw15 (0,1) (3,1) 9 [(0,1),(1,1),(1,0),(2,0),(3,0),(3,1)] 5 4 0:=by
 refine .inr (.inr (.inr ⟨⟨by decide,by decide⟩,by decide,by decide,aw15_good,nY,?_⟩))
 have h:=aAe (G:=hGr aw15_good nY (0,1) (3,1)) (legs:=pS) (W:=4) (t:=7) (b:=9) (P:=eB 4 2 2 aw15 (0,1)) aB3 (k:=9) (A:=aY 4) (p:=[7,2,1,4]) (c:=5) (n:=4) (e:=0) (fun u hu=>by
  have hu4:u=4:=by
   unfold aY bS at hu
   simp only at hu
   split at hu
   ·assumption
   cases hu
  subst hu4
  show opH 4 2 (aD 4 2 2 aw15) (0,1) (3,1) aw15.length 4=true
  refine(kG aw15_good).2 ⟨(0,1),?_,(show aC 4 (0,1)=4 by decide)⟩
  rw[sW,nZ]
  decide) (by show xQ pS 4 8 7 9 9 (aY 4)=_;decide+kernel) rfl
 rw[aFg]at h
 exact h
end Go.Proofs.YtaellcgglldjaaaGreat

