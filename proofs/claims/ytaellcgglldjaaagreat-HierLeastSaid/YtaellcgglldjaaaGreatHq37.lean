/- Part of a proof: HierL HierU HierW StarJ. -/
import Derived.Test.YtaellcgglldjaaaGreatHq34
import Derived.Shelf.Abstract
import Derived.Test.YtaellcgglldjaaaGreatHq36
import Derived.Test.YtaellcgglldjaaaGreatHq23
import Derived.Test.YtaellcgglldjaaaGreatHq06
import Derived.Test.YtaellcgglldjaaaGreatHq12
import Derived.Test.YtaellcgglldjaaaGreatHq35
import Derived.Deep.Cut
set_option linter.all false
set_option linter.unusedVariables false
set_option linter.unusedSimpArgs false
namespace Go.Proofs.YtaellcgglldjaaaGreat
open Go.RowKit
attribute [local go_sem] Oper.semAt_some
theorem IterN.ext {α:Type} {P:Program} {gf:Nat} {lb:Array Value} {encs:α→Array Value} {xs:List α} {R:Nat→Prop} {w w':World} (h:IterN P gf lb encs xs R w) (x:Ext w w'):IterN P gf lb encs xs R w':=
 fun l J W hx=>h l J W (x.trans hx)
section
variable {w:World} {p:Spot} {R:Nat→Prop} {W H s:Int} {l:List Int}
theorem aDe {α:Type} (E:Enc α) (w:World):Reads E w (.slice none 0 0) []:= .inl ⟨rfl,rfl⟩
end
end Go.Proofs.YtaellcgglldjaaaGreat

namespace Go.Proofs.YtaellcgglldjaaaGreat
open Go.RowKit
def noneH:AS:={st:=fun _=>0,g:=fun _=>0,came:=fun _=>0,cnt:=0}
theorem aDc (s:Nat):noneH.put s 0 (-1)=aV s:=by
 unfold noneH AS.put aV
 congr 1
 funext v
 unfold jG
 split<;>rfl
theorem aHl {w0 w3 w4:World} {lb h mg mc sb n:Nat} {W:Int} (hh:HeapIs (fun k=>w0.heap.size≤k) w3 h []) (hz:w0.heap.size≤w3.heap.size) (hmg:mg=w3.heap.size) (hmc:mc=w3.heap.size+1) (hsb:sb=w3.heap.size+2)
  (hw:w4=((w3.alloc (.map #[] 0)).alloc (.map #[] 0)).alloc (.cells #[.pointer (some ⟨lb,0,none⟩), .pointer (some ⟨h,0,none⟩), .map (some mg), .map (some mc)] 108)):
  HMem w4 sb lb h mg mc W n (fun j=>w0.heap.size≤j∧j≠sb∧j≠mg∧j≠mc) noneH:=by
 have hz4:w4.heap.size=w3.heap.size+3:=by rw[hw];simp
 have hx:Ext w3 w4:=by rw[hw];exact((((Ext.refl _).alloc _).alloc _).alloc _)
 exact {
  sea:=by rw[hw,hsb];exact Blk.new_ (by simp)
  gm:=⟨0,Nat.zero_le _,by
   have h1:MapIn Tryz.prog KU (w3.alloc (.map #[] 0)) w3.heap.size (fun _=>none) 0:=MapIn.made w3
   rw[hw,hmg]
   exact(h1.ext (((Ext.refl _).alloc _).alloc _)).congr (fun z=>by unfold gF noneH;simp)⟩
  cm:=⟨0,fun _=>none,Nat.zero_le _,by
   have h1:=MapL.made (w3.alloc (.map #[] 0))
   have e:(w3.alloc (.map #[] 0)).heap.size=w3.heap.size+1:=by simp
   rw[e]at h1
   rw[hw,hmc]
   exact h1.ext ((Ext.refl _).alloc _),⟨fun _ _=>rfl,fun v hv=>absurd rfl hv⟩⟩
  heap:=⟨[],(hh.mono (S':=fun j=>w0.heap.size≤j∧j≠sb∧j≠mg∧j≠mc) (fun k hk hS=>⟨hS,by omega,by omega,by omega⟩)).ext hx,⟨by simp[ids],(fun t ht=>by cases ht),(fun v hv=>by unfold noneH at hv;cases hv)⟩⟩
  ns:=⟨fun y=>y.2.1 rfl,fun y=>y.2.2.1 rfl,fun y=>y.2.2.2 rfl,by omega,by omega,by omega⟩
  nw:=fun j hj=>⟨by omega,by omega,by omega,by omega⟩}
def aKw (W H s:Int) (l:List Int) (f t:aB) (b:Int) (base:Nat) (e:Ending) (w':World):Prop:=
 ∃(p:List aB) (c k er:Int) (v:Value),HSrch W H s l f t b p c k er∧e= .returned (.tuple #[.agg #[v, .int .u64 c, .int .i64 k], .int .i64 er])∧Own cellE w' base 28 v p
theorem aD4 (s:Nat):gK (aV s):=fun u v hu _=>by
 unfold aV bK at hu
 simp only at hu
 split at hu<;>omega
set_option maxRecDepth 100000 in
set_option maxHeartbeats 2000000 in
theorem nX {w:World} {p:Spot} {R:Nat→Prop} {W H s:Int} {l:List Int} (h:WorldAt w p R W H s l) (g:Good W H s l) (hl:l.length≤150) (hgl:(aI W H s l).length≤45000) (f t:aB) (b:Int):
  Calls Tryz.prog 12 #[.pointer (some ⟨p.b,0,none⟩), .agg #[.int .i64 f.1, .int .i64 f.2], .agg #[.int .i64 t.1, .int .i64 t.2], .int .i64 b] w fun e w'=>Ext w w'∧aKw W H s l f t b w.heap.size e w':=by
 have HLK:=aA (fun(w':World) (x:Ext w w')=>aI2 (h.ext x) f t [] none 0 (aDe _ _) (by simp))
 obtain⟨pb,hpb⟩: ∃z,p.b=z:=⟨_,rfl⟩
 rw[hpb]at HLK⊢
 obtain⟨fx,fy⟩:=f
 obtain⟨tx,ty⟩:=t
 simp only[List.length_nil]at HLK
 clear h hpb
 simp only
 go_enter Tryz.func12,Tryz.ntmps12
 go_upto_region 1 with(fail)
 obtain⟨w1,hw1⟩: ∃z,z=((w.alloc (.cells #[.int .i64 fx, .int .i64 fy] 28)).alloc (.cells #[.int .i64 tx, .int .i64 ty] 28)).alloc (.cells #[.slice none 0 0, .int .u64 0, .int .i64 0] 40):=⟨_,rfl⟩
 have X1:=aA (show Ext w w1 by rw[hw1];exact(((Ext.refl _).alloc _).alloc _).alloc _)
 have F1:=aA (show Blk w1 w.heap.size 28 #[.int .i64 fx, .int .i64 fy] by rw[hw1];exact(Blk.new_ rfl).over.over)
 have T1:=aA (show Blk w1 (w.heap.size+1) 28 #[.int .i64 tx, .int .i64 ty] by rw[hw1];exact(Blk.new_ (by simp)).over)
 have R1:=aA (show Blk w1 (w.heap.size+1+1) 40 #[.slice none 0 0, .int .u64 0, .int .i64 0] by rw[hw1];exact Blk.new_ (by simp))
 rw[←hw1]
 obtain⟨fb,hfb⟩: ∃z,w.heap.size=z:=⟨_,rfl⟩
 have HFB:=aA hfb
 have HZ1:=aA (show w1.heap.size=fb+3 by rw[hw1,←hfb];simp)
 rw[hfb]at F1 T1 R1⊢
 clear hw1 hfb
 have f0:=F1.out.at 0 rfl;have f1:=F1.out.at 1 rfl;have fz:=F1.out.lt
 have t0:=T1.out.at 0 rfl;have t1:=T1.out.at 1 rfl;have tz:=T1.out.lt
 go_wp2_with fail
 refine(HLK.out _ X1.out).mono ?_
 rintro e w2 (⟨h1,rfl,x2⟩|⟨h1,lb,fa,fc,ga,gc,rfl,x2,L⟩)
 ·have X2:=aA (X1.out.trans x2)
  have R2:=aA (R1.out.ext x2)
  have H1:=aA h1
  clear x2 h1 f0 f1 fz t0 t1 tz
  have r0:=R2.out.at 0 rfl;have r1:=R2.out.at 1 rfl;have r2:=R2.out.at 2 rfl;have rz:=R2.out.lt
  have g0:=R2.out.frozen 0
  have g1:=R2.out.frozen 1
  have g2:=R2.out.frozen 2
  go_wp2_with fail
  refine bodyPost_ret (v:= .tuple #[.agg #[.slice none 0 0, .int .u64 0, .int .i64 0], .int .i64 10]) (by simp[results,Tryz.results12,go_sem, *]) rfl ?_
  refine⟨((X2.out.setCell (p:=⟨fb+1+1,0,none⟩) (by have:=HFB.out;simp;omega) _).setCell (p:=⟨fb+1+1,1,none⟩) (by have:=HFB.out;simp;omega) _).setCell (p:=⟨fb+1+1,2,none⟩) (by have:=HFB.out;simp;omega) _,[],0,0,10,_, .inl ⟨fun hh=> ?_,rfl,rfl,rfl,rfl⟩,rfl,Own.nil _ _ _ _⟩
  have:=H1.out
  simp[hh.1,hh.2]at this
 ·have X2:=aA (X1.out.trans x2)
  have R2:=aA (R1.out.ext x2)
  have F2:=aA (F1.out.ext x2)
  have T2:=aA (T1.out.ext x2)
  have HIN:=aA (show inB W H fx fy=true∧inB W H tx ty=true by simpa using h1)
  have HL:=aA L
  have z2:=x2.size
  have HZ2:=aA z2
  clear x2 h1 L f0 f1 fz t0 t1 tz F1 T1 R1 z2
  have r0:=R2.out.at 0 rfl;have r1:=R2.out.at 1 rfl;have r2:=R2.out.at 2 rfl;have rz:=R2.out.lt
  have f0:=F2.out.at 0 rfl;have f1:=F2.out.at 1 rfl;have fz:=F2.out.lt
  have t0:=T2.out.at 0 rfl;have t1:=T2.out.at 1 rfl;have tz:=T2.out.lt
  have g0:=R2.out.frozen 0
  have g1:=R2.out.frozen 1
  have g2:=R2.out.frozen 2
  by_cases hb:b<0
  ·have hd:decide (b<0)=true:=decide_eq_true hb
   have HB:=aA hb
   clear hb
   go_wp2_with fail
   refine bodyPost_ret (v:= .tuple #[.agg #[.slice none 0 0, .int .u64 0, .int .i64 0], .int .i64 1]) (by simp[results,Tryz.results12,go_sem, *]) rfl ?_
   exact⟨((X2.out.setCell (p:=⟨fb+1+1,0,none⟩) (by have:=HFB.out;simp;omega) _).setCell (p:=⟨fb+1+1,1,none⟩) (by have:=HFB.out;simp;omega) _).setCell (p:=⟨fb+1+1,2,none⟩) (by have:=HFB.out;simp;omega) _,[],0,0,1,_, .inr (.inl ⟨HIN.out,HB.out,rfl,rfl,rfl,rfl⟩),rfl,Own.nil _ _ _ _⟩
  ·have hd:decide (b<0)=false:=decide_eq_false hb
   have HB:=aA hb
   have HC1:=aA (fun(w':World) (x:Ext w2 w')=>nN (HL.out.ext x) (c:=(fx,fy)) HIN.out.1)
   have HC2:=aA (fun(w':World) (x:Ext w2 w')=>nN (HL.out.ext x) (c:=(tx,ty)) HIN.out.2)
   obtain⟨c1,hc1⟩: ∃z,aH l W (fx,fy)=z:=⟨_,rfl⟩
   obtain⟨c2,hc2⟩: ∃z,aH l W (tx,ty)=z:=⟨_,rfl⟩
   have HCC:=aA (And.intro hc1 hc2)
   rw[hc1]at HC1
   rw[hc2]at HC2
   simp only at HC1 HC2
   clear hb hc1 hc2
   by_cases hz1:c1=0
   ·subst hz1
    clear HC2
    go_wp2_with fail
    refine(HC1.out _ (Ext.refl _)).mono ?_
    rintro e w5 ⟨rfl,x5⟩
    have X5:=aA (X2.out.trans x5)
    have R5:=aA (R2.out.ext x5)
    clear x5 r0 r1 r2 rz f0 f1 fz t0 t1 tz g0 g1 g2
    have r0:=R5.out.at 0 rfl;have r1:=R5.out.at 1 rfl;have r2:=R5.out.at 2 rfl;have rz:=R5.out.lt
    have g0:=R5.out.frozen 0
    have g1:=R5.out.frozen 1
    have g2:=R5.out.frozen 2
    go_wp2_with fail
    refine bodyPost_ret (v:= .tuple #[.agg #[.slice none 0 0, .int .u64 0, .int .i64 0], .int .i64 22]) (by simp[results,Tryz.results12,go_sem, *]) rfl ?_
    exact⟨((X5.out.setCell (p:=⟨fb+1+1,0,none⟩) (by have:=HFB.out;simp;omega) _).setCell (p:=⟨fb+1+1,1,none⟩) (by have:=HFB.out;simp;omega) _).setCell (p:=⟨fb+1+1,2,none⟩) (by have:=HFB.out;simp;omega) _,[],0,0,22,_, .inr (.inr (.inl ⟨HIN.out,by have:=HB.out;omega, .inl HCC.out.1,rfl,rfl,rfl,rfl⟩)),rfl,Own.nil _ _ _ _⟩
   ·have hq1:(c1==0)=false:=by simpa using hz1
    have HZ1c:=aA hz1
    clear hz1
    go_wp2_with fail
    refine(HC1.out _ (Ext.refl _)).mono ?_
    rintro e w4 ⟨rfl,x4⟩
    have X4:=aA x4
    have R4:=aA (R2.out.ext x4)
    have F4:=aA (F2.out.ext x4)
    have T4:=aA (T2.out.ext x4)
    clear x4 r0 r1 r2 rz f0 f1 fz t0 t1 tz g0 g1 g2
    have t0:=T4.out.at 0 rfl;have t1:=T4.out.at 1 rfl;have tz:=T4.out.lt
    by_cases hz2:c2=0
    ·subst hz2
     go_wp2_with fail
     refine(HC2.out _ X4.out).mono ?_
     rintro e w5 ⟨rfl,x5⟩
     have X5:=aA (X2.out.trans (X4.out.trans x5))
     have R5:=aA (R4.out.ext x5)
     clear x5 t0 t1 tz
     have r0:=R5.out.at 0 rfl;have r1:=R5.out.at 1 rfl;have r2:=R5.out.at 2 rfl;have rz:=R5.out.lt
     have g0:=R5.out.frozen 0
     have g1:=R5.out.frozen 1
     have g2:=R5.out.frozen 2
     go_wp2_with fail
     refine bodyPost_ret (v:= .tuple #[.agg #[.slice none 0 0, .int .u64 0, .int .i64 0], .int .i64 22]) (by simp[results,Tryz.results12,go_sem, *]) rfl ?_
     exact⟨((X5.out.setCell (p:=⟨fb+1+1,0,none⟩) (by have:=HFB.out;simp;omega) _).setCell (p:=⟨fb+1+1,1,none⟩) (by have:=HFB.out;simp;omega) _).setCell (p:=⟨fb+1+1,2,none⟩) (by have:=HFB.out;simp;omega) _,[],0,0,22,_, .inr (.inr (.inl ⟨HIN.out,by have:=HB.out;omega, .inr HCC.out.2,rfl,rfl,rfl,rfl⟩)),rfl,Own.nil _ _ _ _⟩
    ·have hq2:(c2==0)=false:=by simpa using hz2
     have HZ2c:=aA hz2
     clear hz2
     go_wp2_with fail
     refine(HC2.out _ X4.out).mono ?_
     rintro e w5 ⟨rfl,x5⟩
     have X25:=aA (X4.out.trans x5)
     have R5:=aA (R4.out.ext x5)
     have F5:=aA (F4.out.ext x5)
     clear x5 t0 t1 tz F4 T4 R4 X4 HC1 HC2
     have hmm:= @run_makeMap Tryz.prog
     have HLN:=aA (pV (c:=(fx,fy)) (checkE_ok.1 g.ok).2 HIN.out.1)
     have hfn:(fx,fy)∈cE W H (aI W H s l) (fx,fy) (tx,ty):=by
      have:=inB_true.1 HIN.out.1
      exact nodesL_mem.2 ⟨by simp only;omega, .inl rfl⟩
     have HI0:=aA (sI (G:=hGr g hl (fx,fy) (tx,ty)) (s:=aC W (fx,fy)) ((eF g).2 ⟨_,hfn,rfl⟩))
     clear hfn
     go_wp2_with fail
     refine(rE _).mono ?_
     rintro e w6 ⟨hp,rfl,hh1,x6,hi⟩
     have X26:=aA (X25.out.trans x6)
     have z56:=X25.out.size
     have HI:=aA (hi.mono (S':=fun k=>w2.heap.size≤k) (fun k _ h=>by omega))
     have F6:=aA (F5.out.ext x6)
     have R6:=aA (R5.out.ext x6)
     clear hi x6 hh1 z56 X25 F5 R5
     have f0:=F6.out.at 0 rfl;have f1:=F6.out.at 1 rfl;have fz:=F6.out.lt
     go_upto_region 9 with(fail)
     obtain⟨w7,hw7⟩: ∃z,z=((w6.alloc (.map #[] 0)).alloc (.map #[] 0)).alloc (.cells #[.pointer (some ⟨lb,0,none⟩), .pointer (some ⟨hp,0,none⟩), .map (some w6.heap.size), .map (some (w6.heap.size+1))] 108):=⟨_,rfl⟩
     have X67:=aA (show Ext w6 w7 by rw[hw7];exact((((Ext.refl _).alloc _).alloc _).alloc _))
     have HM7:=aA (aHl (W:=W) (n:=l.length) (sb:=w6.heap.size+1+1) (mg:=w6.heap.size) (mc:=w6.heap.size+1) HI.out X26.out.size rfl rfl rfl hw7)
     have X27:=aA (X26.out.trans X67.out)
     have F7:=aA (F6.out.ext X67.out)
     have R7:=aA (R6.out.ext X67.out)
     rw[←hw7]
     clear hw7 f0 f1 fz F6 R6 hmm
     obtain⟨sb,hsb⟩: ∃z,w6.heap.size+1+1=z:=⟨_,rfl⟩
     obtain⟨mg,hmg⟩: ∃z,w6.heap.size=z:=⟨_,rfl⟩
     have HNUM:=aA (show sb=mg+2∧w2.heap.size≤mg∧w6.heap.size=mg by have:=X26.out.size;omega)
     rw[hsb,hmg]at HM7
     rw[hsb]
     clear hsb hmg
     have HRE:=aA (qI HL.out X27.out HM7.out (aC W (fx,fy)) HLN.out (0,0) 0 0 (-1) (by omega) (fun u hu=>by omega) (fun u hu=>absurd rfl hu) (by unfold noneH;simp) (fun h2=>by unfold noneH at h2;cases h2))
     rw[aW (c:=(fx,fy)) HIN.out.1,if_pos (show noneH.takes (aC W (fx,fy)) 0 from .inl rfl),aDc]at HRE
     unfold bX at HRE
     simp only at HRE
     have f0:=F7.out.at 0 rfl;have f1:=F7.out.at 1 rfl;have fz:=F7.out.lt
     go_wp2_with fail
     refine HRE.out.mono ?_
     rintro e w8 ⟨rfl,m8,t8⟩
     have M8:=aA m8
     have T8:=aA t8
     have X28:Hid (Ext w2 w8):=aA ((Touch.of_ext (S:=fun _=>False) X27.out).after t8 (fun k hk h=>by
      have:=HNUM.out
      rcases h with h|h|h
      ·have:=h.1;omega
      ·omega
      ·omega)).ext
     have R8:=aA (R7.out.touch t8 (fun h=>by
      have h1:=R2.out.lt
      have:=HNUM.out
      rcases h with h|h|h
      ·have:=h.1;omega
      ·omega
      ·omega))
     have HRU:=aA (aF3 HL.out hl g hgl X28.out (fun j h=>h.1) (by have:=HNUM.out;omega) M8.out HI0.out (aD4 _) rfl b)
     clear m8 t8 f0 f1 fz HRE
     go_wp2_with fail
     refine HRU.out.mono ?_
     rintro e w9 ⟨⟨pp,cc,kk,er,v,hrun,rfl,ho⟩,t9⟩
     have HRUN:=aA hrun
     have X29:Hid (Ext w2 w9):=aA ((Touch.of_ext (S:=fun _=>False) X28.out).after t9 (fun k hk h=>by
      have:=HNUM.out
      rcases h with h|h|h
      ·have:=h.1;omega
      ·omega
      ·omega)).ext
     have R9:=aA (R8.out.touch t9 (fun h=>by
      have h1:=R2.out.lt
      have:=HNUM.out
      rcases h with h|h|h
      ·have:=h.1;omega
      ·omega
      ·omega))
     have z8:=X28.out.size
     have HO:=aA (ho.lower (base':=w2.heap.size) (by omega))
     obtain⟨va,vc,rfl⟩:=ho.slice
     clear hrun ho t9 z8
     have r0:=R9.out.at 0 rfl;have r1:=R9.out.at 1 rfl;have r2:=R9.out.at 2 rfl;have rz:=R9.out.lt
     have g0:=R9.out.frozen 0
     have g1:=R9.out.frozen 1
     have g2:=R9.out.frozen 2
     have tF:Touch (fun j=>j=fb+1+1) w9 (((w9.setCell ⟨fb+1+1,0,none⟩ (.slice va pp.length vc)).setCell ⟨fb+1+1,1,none⟩ (.int .u64 cc)).setCell ⟨fb+1+1,2,none⟩ (.int .i64 kk)):=(((Touch.refl (fun j=>j=fb+1+1) w9).setCell (p:=⟨fb+1+1,0,none⟩) (.inl rfl) _).setCell (p:=⟨fb+1+1,1,none⟩) (.inl rfl) _).setCell (p:=⟨fb+1+1,2,none⟩) (.inl rfl) _
     have HOW:=aA (HO.out.touch tF (fun k hk e=>by have:=(aK HO.out hk).1;have:=R2.out.lt;omega))
     have HXW:=aA (((Touch.of_ext (S:=fun _=>False) (X2.out.trans X29.out)).after tF (fun k hk e=>by have:=HFB.out;omega)).ext)
     clear tF
     go_wp2_with fail
     refine bodyPost_ret (v:= .tuple #[.agg #[.slice va pp.length vc, .int .u64 cc, .int .i64 kk], .int .i64 er]) (by simp[results,Tryz.results12,go_sem, *]) rfl ?_
     refine⟨HXW.out,pp,cc,kk,er,_, .inr (.inr (.inr ⟨HIN.out,by have:=HB.out;omega,fun h=> ?_,g,hl,HRUN.out⟩)),rfl,HOW.out.lower (by have:=X2.out.size;have:=HFB.out;omega)⟩
     rcases h with h|h
     ·exact HZ1c.out (HCC.out.1.symm.trans h)
     ·exact HZ2c.out (HCC.out.2.symm.trans h)
end Go.Proofs.YtaellcgglldjaaaGreat

namespace Go.Proofs.YtaellcgglldjaaaGreat
open Go.RowKit
def wJ (legs:Nat→List (Nat×Int)) (W:Int) (n t:Nat) (b:Int):Nat→AS→Option (List Nat×Int×Int×Int)
 |0,_=>none
 |k+1,A=>match fS W (fun _=>0) A n with
  |none=>some ([],0,A.cnt,22)
  |some v=>if A.cnt=b then some ([],0,A.cnt,23) else if v=t then(jW A.came (n+1) t).map (fun l=>(l,A.g t,A.cnt+1,0)) else wJ legs W n t b k (rls v (A.settle v) (legs v))
theorem aCe {W:Int} {A:AS} {n v:Nat} (hb:fS W (fun _=>0) A n=some v) (hlt: ∀u,A.st u=1→u<n):dA W (fun _=>0) A v:=
 ⟨(iB hb).2.1,fun u hu=>(iB hb).2.2 u (hlt u hu) hu⟩
theorem zG {G:LGr} {legs:Nat→List (Nat×Int)} {W:Int} {t:Nat} {b:Int} {P:List Nat→List aB} (hlegs: ∀v,G.op v=true→G.legs v=legs v): ∀{k:Nat} {A:AS} {p:List Nat} {c n e:Int},(∀u,A.st u=1→G.op u=true)→wJ legs W G.n t b k A=some (p,c,n,e)→e=0→LRun G W t b P A (P p) c n e
 |0,_,_,_,_,_,_,hr,_=>by cases hr
 |k+1,A,p,c,n,e,hlt,hr,he=>by
  unfold wJ at hr
  have hlt2: ∀u,A.st u=1→u<G.n:=fun u hu=>G.lt u (hlt u hu)
  cases hb:fS W (fun _=>0) A G.n
  ·rw[hb]at hr
   cases hr
   cases he
  ·rename_i v
   rw[hb]at hr
   simp only at hr
   have hB:=aCe hb hlt2
   split at hr
   ·next h1=>cases hr;cases he
   ·next h1=>
    split at hr
    ·next h2=>
     subst h2
     cases hc:jW A.came (G.n+1) v
     ·rw[hc]at hr;cases hr
     ·rw[hc]at hr
      cases hr
      exact .found hB h1 (oU hc)
    ·next h2=>
     have hov:=hlt v hB.1
     rw[←hlegs v hov]at hr
     refine .next hB h1 h2 (zG hlegs (fun u hu=> ?_) hr he)
     rcases (rL G A v u).2.2 hu with k|⟨x,k⟩
     ·exact hlt u k
     ·exact(G.leg v hov _ k).1
def gE (t:List Int) (v:Nat):Int:=t.getD v aE
def kI (G:Net) (s:Nat) (t:List Int):Bool:=
 decide (t.length=G.n)&&decide (gE t s=0)&&(List.range G.n).all (fun v=>(G.op v||decide (gE t v=aE))&&decide (0≤gE t v)&&decide (gE t v≤aE)&&
  (!G.op v||decide (v=s)||((G.adj v).all (fun u=> !G.op u||decide (aE≤gE t u+G.cost v)||decide (gE t v≤gE t u+G.cost v))&&(decide (aE≤gE t v)||(G.adj v).any (fun u=>G.op u&&decide (gE t u+G.cost v=gE t v))))))
theorem zS {G:Net} {s:Nat} {t:List Int} (h:kI G s t=true):IsFar G s (gE t):=by
 unfold kI at h
 simp only[Bool.and_eq_true,decide_eq_true_eq,List.all_eq_true,List.mem_range]at h
 obtain⟨⟨h8,h0⟩,ha⟩:=h
 have hbig: ∀v,G.n≤v→gE t v=aE:=fun v hv=>by
  unfold gE
  rw[List.getD_eq_getElem?_getD,List.getElem?_eq_none (by omega)]
  rfl
 have hlt: ∀v,G.op v=true→v<G.n:=fun v hv=>G.lt v hv
 refine⟨fun _=>h0,?_,?_,?_,?_,?_⟩
 ·intro v hv
  by_cases h:v<G.n
  ·have:=(ha v h).1.1.1
   rw[hv]at this
   simpa using this
  ·exact hbig v (by omega)
 ·intro v
  by_cases h:v<G.n
  ·exact(ha v h).1.1.2
  ·rw[hbig v (by omega)];decide
 ·intro v
  by_cases h:v<G.n
  ·exact(ha v h).1.2
  ·rw[hbig v (by omega)];exact Int.le_refl _
 ·intro v hv hs u hu huo hl
  have h1:=(ha v (hlt v hv)).2
  rw[hv]at h1
  simp only[Bool.not_true,Bool.false_or,Bool.or_eq_true,decide_eq_true_eq,Bool.and_eq_true,List.all_eq_true]at h1
  rcases h1 with h1|h1
  ·exact absurd h1 hs
  ·rcases h1.1 u hu with(h2|h2)|h2
   ·rw[huo]at h2;cases h2
   ·omega
   ·exact h2
 ·intro v hv hs hl
  have h1:=(ha v (hlt v hv)).2
  rw[hv]at h1
  simp only[Bool.not_true,Bool.false_or,Bool.or_eq_true,decide_eq_true_eq,Bool.and_eq_true,List.any_eq_true]at h1
  rcases h1 with h1|h1
  ·exact absurd h1 hs
  ·rcases h1.2 with h2|⟨u,u1,u2,u3⟩
   ·omega
   ·exact⟨u,u1,u2,u3⟩
def aw15:List Int:=[1,1,1,1,1,1,1,1]
theorem aw15_good:Good 4 2 2 aw15:=⟨by decide,by decide,by intro x hx;simp[aw15]at hx;omega⟩
theorem rT:aI 4 2 2 aw15=[((1,0),(2,0))]:=(aG3 (N:=2) (by decide) (by decide)).symm.trans (by decide+kernel)
theorem mX:cE 4 2 [((1,0),(2,0))] (0,1) (3,1)=[(1,0),(2,0),(0,1),(3,1)]:=by decide+kernel
def eR:Int:=18446744073709551615
theorem wW (id:Int) (h:0≤id∧id<cnt 4 2 2):cT 4 2 2 id aw15:=aw15_good.box h
theorem o10:ofN 4 2 (1,0).1 (1,0).2=0:=by decide
theorem o20:ofN 4 2 (2,0).1 (2,0).2=1:=by decide
theorem o01:ofN 4 2 (0,1).1 (0,1).2=0:=by decide
theorem o31:ofN 4 2 (3,1).1 (3,1).2=1:=by decide
theorem mU:cT 4 2 2 0 aw15:=wW 0 (by decide)
theorem mV:cT 4 2 2 1 aw15:=wW 1 (by decide)
theorem nO {a:aB} {id:Int} (h:ofN 4 2 a.1 a.2=id) (L:cT 4 2 2 id aw15) {t:List Int} (ht:kI (aF (W:=4) (H:=2) (l:=aw15) L) (aC 4 a) t=true) (c:aB):cI 4 2 2 aw15 a c=gE t (aC 4 c):=by
 subst h
 unfold cI
 rw[dif_pos L]
 exact(nQ L (zS ht) _).symm
theorem tb4:kI (aF (W:=4) (H:=2) (l:=aw15) mU) 4 [1,2,eR,eR,0,1,eR,eR]=true:=by decide+kernel
theorem tb1:kI (aF (W:=4) (H:=2) (l:=aw15) mU) 1 [1,0,eR,eR,2,1,eR,eR]=true:=by decide+kernel
theorem tb2:kI (aF (W:=4) (H:=2) (l:=aw15) mV) 2 [eR,eR,0,1,eR,eR,1,2]=true:=by decide+kernel
theorem tb7:kI (aF (W:=4) (H:=2) (l:=aw15) mV) 7 [eR,eR,2,1,eR,eR,1,0]=true:=by decide+kernel
theorem aJk:cO 4 2 2 aw15 [((1,0),(2,0))] (0,1) (3,1) (0,1)=[((1,0),2)]:=by
 have hd:=nO (a:=(0,1)) o01 mU tb4
 unfold cO kB
 rw[mX]
 simp only[hd]
 decide+kernel
theorem aJi:cO 4 2 2 aw15 [((1,0),(2,0))] (0,1) (3,1) (1,0)=[((0,1),2),((2,0),1)]:=by
 have hd:=nO (a:=(1,0)) o10 mU tb1
 unfold cO kB
 rw[mX]
 simp only[hd]
 decide+kernel
theorem aJj:cO 4 2 2 aw15 [((1,0),(2,0))] (0,1) (3,1) (2,0)=[((3,1),2),((1,0),1)]:=by
 have hd:=nO (a:=(2,0)) o20 mV tb2
 unfold cO kB
 rw[mX]
 simp only[hd]
 decide+kernel
theorem aJl:cO 4 2 2 aw15 [((1,0),(2,0))] (0,1) (3,1) (3,1)=[((2,0),2)]:=by
 have hd:=nO (a:=(3,1)) o31 mV tb7
 unfold cO kB
 rw[mX]
 simp only[hd]
 decide+kernel
def oQ (v:Nat):List (Nat×Int):=if v=4 then[(1,2)] else if v=1 then[(4,2),(2,1)] else if v=2 then[(7,2),(1,1)] else[(2,2)]
theorem mW:aw15.length≤150:=by decide
theorem aA6 (v:Nat) (hv:(hGr aw15_good mW (0,1) (3,1)).op v=true):(hGr aw15_good mW (0,1) (3,1)).legs v=oQ v:=by
 obtain⟨c,hc,rfl⟩:=(eF aw15_good).1 hv
 have hin:=eX aw15_good hc
 show jL 4 2 2 aw15 (aI 4 2 2 aw15) (0,1) (3,1) (aC 4 c)=_
 unfold jL
 rw[aW hin]
 rw[rT]at hc⊢
 rw[mX]at hc
 simp only[List.mem_cons,List.not_mem_nil,or_false]at hc
 rcases hc with rfl|rfl|rfl|rfl
 ·rw[aJi];decide
 ·rw[aJj];decide
 ·rw[aJk];decide
 ·rw[aJl];decide
theorem aC9 {u v:aB} {id:Int} (h:ofN 4 2 u.1 u.2=id) (h2:ofN 4 2 v.1 v.2=id) (L:cT 4 2 2 id aw15) {t:List Int} (ht:kI (aF (W:=4) (H:=2) (l:=aw15) L) (aC 4 u) t=true) {p:List Nat} (hp:BackP (aF (W:=4) (H:=2) (l:=aw15) L) (gE t) (aC 4 v) p):bO 4 2 2 aw15 u v=(p.reverse.map (aD 4)).drop 1:=by
 subst h
 have e:cJ (W:=4) (H:=2) (l:=aw15) L u=gE t:=funext fun x=>(nQ (W:=4) (H:=2) (l:=aw15) L (zS ht) x).symm
 exact uH h2 L (by rw[e];exact hp)
theorem aJn:bO 4 2 2 aw15 (2,0) (3,1)=[(3,0),(3,1)]:=by
 rw[aC9 (u:=(2,0)) (v:=(3,1)) o20 o31 mV tb2 (p:=[7,3,2]) (.step (by decide+kernel) (u:=3) (by decide+kernel) (.step (by decide+kernel) (u:=2) (by decide+kernel) (.done (by decide+kernel))))]
 decide+kernel
theorem aJo:bO 4 2 2 aw15 (1,0) (2,0)=[(2,0)]:=kJ (by decide)
theorem aJp:bO 4 2 2 aw15 (0,1) (1,0)=[(1,1),(1,0)]:=by
 rw[aC9 (u:=(0,1)) (v:=(1,0)) o01 o10 mU tb4 (p:=[1,5,4]) (.step (by decide+kernel) (u:=5) (by decide+kernel) (.step (by decide+kernel) (u:=4) (by decide+kernel) (.done (by decide+kernel))))]
 decide+kernel
theorem aE2:iL 4 2 2 aw15 (0,1) [7,2,1,4]=[(0,1),(1,1),(1,0),(2,0),(3,0),(3,1)]:=by
 unfold iL
 show(0,1)::eN (fun u v=>bO 4 2 2 aw15 (aD 4 u) (aD 4 v)) (bO 4 2 2 aw15 (aD 4 4) (aD 4 1)++(bO 4 2 2 aw15 (aD 4 1) (aD 4 2)++(bO 4 2 2 aw15 (aD 4 2) (aD 4 7)++[]))) [4]=_
 rw[show aD 4 4=(0,1) by decide,show aD 4 1=(1,0) by decide,show aD 4 2=(2,0) by decide,show aD 4 7=(3,1) by decide,aJn,aJo,aJp]
 rfl
theorem aE3:HSrch 4 2 2 aw15 (0,1) (3,1) 9 [(0,1),(1,1),(1,0),(2,0),(3,0),(3,1)] 5 4 0:=by
 refine .inr (.inr (.inr ⟨⟨by decide,by decide⟩,by decide,by decide,aw15_good,mW,?_⟩))
 have h:=zG (G:=hGr aw15_good mW (0,1) (3,1)) (legs:=oQ) (W:=4) (t:=7) (b:=9) (P:=iL 4 2 2 aw15 (0,1)) aA6 (k:=9) (A:=aV 4) (p:=[7,2,1,4]) (c:=5) (n:=4) (e:=0) (fun u hu=>by
  have hu4:u=4:=by
   unfold aV bK at hu
   simp only at hu
   split at hu
   ·assumption
   ·cases hu
  subst hu4
  show opH 4 2 (aI 4 2 2 aw15) (0,1) (3,1) aw15.length 4=true
  refine(eF aw15_good).2 ⟨(0,1),?_,(show aC 4 (0,1)=4 by decide)⟩
  rw[rT,mX]
  decide) (by show wJ oQ 4 8 7 9 9 (aV 4)=_;decide+kernel) rfl
 rw[aE2]at h
 exact h
end Go.Proofs.YtaellcgglldjaaaGreat

namespace Go.Proofs.YtaellcgglldjaaaGreat
open Go.RowKit
def dH (W H:Int) (n:Nat) (x y tx ty b:Int):Int:=
 if aS W H n=0 then(if inB W H x y=true∧inB W H tx ty=true then(if b<0 then 1 else 0) else 10) else aS W H n
theorem findE_ok {W H:Int} {n:Nat} {x y tx ty b:Int}:dH W H n x y tx ty b=0↔aS W H n=0∧inB W H x y=true∧inB W H tx ty=true∧0≤b:=by
 unfold dH
 split
 ·next h=>
  split
  ·next h2=>
   split
   ·next h3=>exact⟨(fun e=>absurd e (by decide)),(fun e=>by omega)⟩
   ·next h3=>exact⟨fun _=>⟨h,h2.1,h2.2,by omega⟩,fun _=>rfl⟩
  ·next h2=>exact⟨(fun e=>absurd e (by decide)),fun e=>absurd ⟨e.2.1,e.2.2.1⟩ h2⟩
 ·next h=>exact⟨fun e=>absurd e h,fun e=>absurd e.1 h⟩
set_option maxRecDepth 100000 in
theorem aGe {w:World} (W H:Int) (a:Option Addr) (n c:Nat) (x y tx ty b:Int) (he:dH W H n x y tx ty b≠0):
  Calls Tryz.prog 25 #[.agg #[.int .i64 W, .int .i64 H, .slice a n c], .agg #[.int .i64 x, .int .i64 y], .agg #[.int .i64 tx, .int .i64 ty], .int .i64 b] w fun e w'=>e= .returned (.tuple #[.agg #[.slice none 0 0, .int .u64 0, .int .i64 0], .int .i64 (dH W H n x y tx ty b)])∧Ext w w':=by
 have HC:=aA (fun w'=>cA W H a n c w')
 have H1:=aA (fun w'=>fG W H x y w')
 have H2:=aA (fun w'=>fG W H tx ty w')
 by_cases hc:aS W H n=0
 ·rw[hc]at HC
  by_cases hi:inB W H x y=true
  ·rw[hi]at H1
   by_cases ht:inB W H tx ty=true
   ·rw[ht]at H2
    have hb:b<0:=by
     rcases Int.lt_or_le b 0 with h|h
     ·exact h
     ·exact absurd (findE_ok.2 ⟨hc,hi,ht,h⟩) he
    have e0:dH W H n x y tx ty b=1:=by unfold dH;rw[if_pos hc,if_pos ⟨hi,ht⟩,if_pos hb]
    have hb':decide (b<0)=true:=by simpa using hb
    rw[e0]
    clear e0 he hc hi ht hb
    go_enter Tryz.func25,Tryz.ntmps25
    go_wp2_with fail
    refine(HC.out _).mono ?_
    rintro e w1 ⟨rfl,hb1⟩
    obtain⟨hc1,hf1⟩:=hb1.cells;have hz1:=hb1.size;(repeat(first|rw[World.size_alloc]at hz1|rw[World.size_drew]at hz1));have z1_0:w.heap.size<w1.heap.size:=(by omega);have z1_1:w.heap.size+1<w1.heap.size:=(by omega);have z1_2:w.heap.size+2<w1.heap.size:=(by omega);have z1_3:w.heap.size+3<w1.heap.size:=(by omega)
    go_wp2_with fail
    refine(H1.out _).mono ?_
    rintro e w2 ⟨rfl,hb2⟩
    obtain⟨hc2,hf2⟩:=hb2.cells;have hz2:=hb2.size;(repeat(first|rw[World.size_alloc]at hz2|rw[World.size_drew]at hz2));have z2_0:w.heap.size<w2.heap.size:=(by omega);have z2_1:w.heap.size+1<w2.heap.size:=(by omega);have z2_2:w.heap.size+2<w2.heap.size:=(by omega);have z2_3:w.heap.size+3<w2.heap.size:=(by omega)
    go_wp2_with fail
    refine(H2.out _).mono ?_
    rintro e w3 ⟨rfl,hb3⟩
    obtain⟨hc3,hf3⟩:=hb3.cells;have hz3:=hb3.size;(repeat(first|rw[World.size_alloc]at hz3|rw[World.size_drew]at hz3));have z3_0:w.heap.size<w3.heap.size:=(by omega);have z3_1:w.heap.size+1<w3.heap.size:=(by omega);have z3_2:w.heap.size+2<w3.heap.size:=(by omega);have z3_3:w.heap.size+3<w3.heap.size:=(by omega)
    go_wp2_with fail
    exact bodyPost_ret (v:= .tuple #[.agg #[.slice none 0 0, .int .u64 0, .int .i64 0], .int .i64 1]) (by simp[results,Tryz.results25,go_sem, *]) rfl ⟨rfl,z_x⟩
   ·have ht':inB W H tx ty=false:=by simpa using ht
    rw[ht']at H2
    have e0:dH W H n x y tx ty b=10:=by unfold dH;rw[if_pos hc,if_neg (fun e=>ht e.2)]
    rw[e0]
    clear e0 he hc hi ht ht'
    go_enter Tryz.func25,Tryz.ntmps25
    go_wp2_with fail
    refine(HC.out _).mono ?_
    rintro e w1 ⟨rfl,hb1⟩
    obtain⟨hc1,hf1⟩:=hb1.cells;have hz1:=hb1.size;(repeat(first|rw[World.size_alloc]at hz1|rw[World.size_drew]at hz1));have z1_0:w.heap.size<w1.heap.size:=(by omega);have z1_1:w.heap.size+1<w1.heap.size:=(by omega);have z1_2:w.heap.size+2<w1.heap.size:=(by omega);have z1_3:w.heap.size+3<w1.heap.size:=(by omega)
    go_wp2_with fail
    refine(H1.out _).mono ?_
    rintro e w2 ⟨rfl,hb2⟩
    obtain⟨hc2,hf2⟩:=hb2.cells;have hz2:=hb2.size;(repeat(first|rw[World.size_alloc]at hz2|rw[World.size_drew]at hz2));have z2_0:w.heap.size<w2.heap.size:=(by omega);have z2_1:w.heap.size+1<w2.heap.size:=(by omega);have z2_2:w.heap.size+2<w2.heap.size:=(by omega);have z2_3:w.heap.size+3<w2.heap.size:=(by omega)
    go_wp2_with fail
    refine(H2.out _).mono ?_
    rintro e w3 ⟨rfl,hb3⟩
    obtain⟨hc3,hf3⟩:=hb3.cells;have hz3:=hb3.size;(repeat(first|rw[World.size_alloc]at hz3|rw[World.size_drew]at hz3));have z3_0:w.heap.size<w3.heap.size:=(by omega);have z3_1:w.heap.size+1<w3.heap.size:=(by omega);have z3_2:w.heap.size+2<w3.heap.size:=(by omega);have z3_3:w.heap.size+3<w3.heap.size:=(by omega)
    go_wp2_with fail
    exact bodyPost_ret (v:= .tuple #[.agg #[.slice none 0 0, .int .u64 0, .int .i64 0], .int .i64 10]) (by simp[results,Tryz.results25,go_sem, *]) rfl ⟨rfl,z_x⟩
  ·have hi':inB W H x y=false:=by simpa using hi
   rw[hi']at H1
   have e0:dH W H n x y tx ty b=10:=by unfold dH;rw[if_pos hc,if_neg (fun e=>hi e.1)]
   rw[e0]
   clear e0 he hc hi hi'
   go_enter Tryz.func25,Tryz.ntmps25
   go_wp2_with fail
   refine(HC.out _).mono ?_
   rintro e w1 ⟨rfl,hb1⟩
   obtain⟨hc1,hf1⟩:=hb1.cells;have hz1:=hb1.size;(repeat(first|rw[World.size_alloc]at hz1|rw[World.size_drew]at hz1));have z1_0:w.heap.size<w1.heap.size:=(by omega);have z1_1:w.heap.size+1<w1.heap.size:=(by omega);have z1_2:w.heap.size+2<w1.heap.size:=(by omega);have z1_3:w.heap.size+3<w1.heap.size:=(by omega)
   go_wp2_with fail
   refine(H1.out _).mono ?_
   rintro e w2 ⟨rfl,hb2⟩
   obtain⟨hc2,hf2⟩:=hb2.cells;have hz2:=hb2.size;(repeat(first|rw[World.size_alloc]at hz2|rw[World.size_drew]at hz2));have z2_0:w.heap.size<w2.heap.size:=(by omega);have z2_1:w.heap.size+1<w2.heap.size:=(by omega);have z2_2:w.heap.size+2<w2.heap.size:=(by omega);have z2_3:w.heap.size+3<w2.heap.size:=(by omega)
   go_wp2_with fail
   exact bodyPost_ret (v:= .tuple #[.agg #[.slice none 0 0, .int .u64 0, .int .i64 0], .int .i64 10]) (by simp[results,Tryz.results25,go_sem, *]) rfl ⟨rfl,z_x⟩
 ·have e0:dH W H n x y tx ty b=aS W H n:=by unfold dH;rw[if_neg hc]
  rw[e0]
  clear e0 he
  generalize aS W H n=q at *
  have hq:(q !=0)=true:=by simpa using hc
  clear hc
  go_enter Tryz.func25,Tryz.ntmps25
  go_wp2_with fail
  refine(HC.out _).mono ?_
  rintro e w1 ⟨rfl,hb1⟩
  obtain⟨hc1,hf1⟩:=hb1.cells;have hz1:=hb1.size;(repeat(first|rw[World.size_alloc]at hz1|rw[World.size_drew]at hz1));have z1_0:w.heap.size<w1.heap.size:=(by omega);have z1_1:w.heap.size+1<w1.heap.size:=(by omega);have z1_2:w.heap.size+2<w1.heap.size:=(by omega);have z1_3:w.heap.size+3<w1.heap.size:=(by omega)
  go_wp2_with fail
  exact bodyPost_ret (v:= .tuple #[.agg #[.slice none 0 0, .int .u64 0, .int .i64 0], .int .i64 q]) (by simp[results,Tryz.results25,go_sem, *]) rfl ⟨rfl,z_x⟩
end Go.Proofs.YtaellcgglldjaaaGreat

