/- Part of a proof: HierL HierU HierW. -/
import Derived.Test.YtaellcgglldjaaaGreatHierBudgetQ38
import Derived.Shelf.Abstract
import Derived.Test.YtaellcgglldjaaaGreatHierBudgetQ40
import Derived.Test.YtaellcgglldjaaaGreatHierBudgetQ24
import Derived.Test.YtaellcgglldjaaaGreatHierBudgetQ06
import Derived.Test.YtaellcgglldjaaaGreatHierBudgetQ12
set_option linter.all false
set_option linter.unusedVariables false
set_option linter.unusedSimpArgs false
namespace Go.Proofs.YtaellcgglldjaaaGreat
open Go.RowKit
attribute [local go_sem] Oper.semAt_some
theorem IterN.ext {α : Type} {P : Program} {gf : Nat} {lb : Array Value} {encs : α → Array Value} {xs : List α} {R : Nat → Prop} {w w' : World} (h : IterN P gf lb encs xs R w) (x : Ext w w') : IterN P gf lb encs xs R w' :=
 fun l J W hx => h l J W (x.trans hx)
section
variable {w : World} {p : Spot} {R : Nat → Prop} {W H s : Int} {l : List Int}
theorem reads_none {α : Type} (E : Enc α) (w : World) : Reads E w (.slice none 0 0) [] := .inl ⟨rfl, rfl⟩
end
end Go.Proofs.YtaellcgglldjaaaGreat

namespace Go.Proofs.YtaellcgglldjaaaGreat
open Go.RowKit
def noneH : AS := { st := fun _ => 0, g := fun _ => 0, came := fun _ => 0, cnt := 0 }
theorem put_startH (s : Nat) : noneH.put s 0 (-1) = start0 s := by
 unfold noneH AS.put start0
 congr 1
 funext v
 unfold updI
 split <;> rfl
theorem fresh_hm {w0 w3 w4 : World} {lb h mg mc sb n : Nat} {W : Int} (hh : HeapIs (fun k => w0.heap.size ≤ k) w3 h []) (hz : w0.heap.size ≤ w3.heap.size) (hmg : mg = w3.heap.size) (hmc : mc = w3.heap.size + 1) (hsb : sb = w3.heap.size + 2)
  (hw : w4 = ((w3.alloc (.map #[] 0)).alloc (.map #[] 0)).alloc (.cells #[.pointer (some ⟨lb, 0, none⟩), .pointer (some ⟨h, 0, none⟩), .map (some mg), .map (some mc)] 108)) :
  HMem w4 sb lb h mg mc W n (fun j => w0.heap.size ≤ j ∧ j ≠ sb ∧ j ≠ mg ∧ j ≠ mc) noneH := by
 have hz4 : w4.heap.size = w3.heap.size + 3 := by rw [hw]; simp
 have hx : Ext w3 w4 := by rw [hw]; exact ((((Ext.refl _).alloc _).alloc _).alloc _)
 exact {
  sea := by rw [hw, hsb]; exact Blk.new_ (by simp)
  gm := ⟨0, Nat.zero_le _, by
   have h1 : MapIn Tryz.prog KU (w3.alloc (.map #[] 0)) w3.heap.size (fun _ => none) 0 := MapIn.made w3
   rw [hw, hmg]
   exact (h1.ext (((Ext.refl _).alloc _).alloc _)).congr (fun z => by unfold gF noneH; simp)⟩
  cm := ⟨0, fun _ => none, Nat.zero_le _, by
   have h1 := MapL.made (w3.alloc (.map #[] 0))
   have e : (w3.alloc (.map #[] 0)).heap.size = w3.heap.size + 1 := by simp
   rw [e] at h1
   rw [hw, hmc]
   exact h1.ext ((Ext.refl _).alloc _), ⟨fun _ _ => rfl, fun v hv => absurd rfl hv⟩⟩
  heap := ⟨[], (hh.mono (S' := fun j => w0.heap.size ≤ j ∧ j ≠ sb ∧ j ≠ mg ∧ j ≠ mc) (fun k hk hS => ⟨hS, by omega, by omega, by omega⟩)).ext hx, ⟨by simp [ids], (fun t ht => by cases ht), (fun v hv => by unfold noneH at hv; cases hv)⟩⟩
  ns := ⟨fun y => y.2.1 rfl, fun y => y.2.2.1 rfl, fun y => y.2.2.2 rfl, by omega, by omega, by omega⟩
  nw := fun j hj => ⟨by omega, by omega, by omega, by omega⟩ }
def HFinds (W H s : Int) (l : List Int) (f t : Cell) (b : Int) (base : Nat) (e : Ending) (w' : World) : Prop :=
 ∃ (p : List Cell) (c k er : Int) (v : Value), HSrch W H s l f t b p c k er ∧ e = .returned (.tuple #[.agg #[v, .int .u64 c, .int .i64 k], .int .i64 er]) ∧ Own cellE w' base 28 v p
theorem mono_start (s : Nat) : MonoA (start0 s) := fun u v hu _ => by
 unfold start0 updN at hu
 simp only at hu
 split at hu <;> omega
set_option maxRecDepth 100000 in
set_option maxHeartbeats 2000000 in
theorem hrFind_uni {w : World} {p : Spot} {R : Nat → Prop} {W H s : Int} {l : List Int} (h : WorldAt w p R W H s l) (g : Good W H s l) (hl : l.length ≤ 150) (hgl : (gatesA W H s l).length ≤ 45000) (f t : Cell) (b : Int) :
  Calls Tryz.prog 12 #[.pointer (some ⟨p.b, 0, none⟩), .agg #[.int .i64 f.1, .int .i64 f.2], .agg #[.int .i64 t.1, .int .i64 t.2], .int .i64 b] w fun e w' => Ext w w' ∧ HFinds W H s l f t b w.heap.size e w' := by
 have HLK := hide (fun (w' : World) (x : Ext w w') => look_any (h.ext x) f t [] none 0 (reads_none _ _) (by simp))
 obtain ⟨pb, hpb⟩ : ∃ z, p.b = z := ⟨_, rfl⟩
 rw [hpb] at HLK ⊢
 obtain ⟨fx, fy⟩ := f
 obtain ⟨tx, ty⟩ := t
 simp only [List.length_nil] at HLK
 clear h hpb
 simp only
 go_enter Tryz.func12, Tryz.ntmps12
 go_upto_region 1 with (fail)
 obtain ⟨w1, hw1⟩ : ∃ z, z = ((w.alloc (.cells #[.int .i64 fx, .int .i64 fy] 28)).alloc (.cells #[.int .i64 tx, .int .i64 ty] 28)).alloc (.cells #[.slice none 0 0, .int .u64 0, .int .i64 0] 40) := ⟨_, rfl⟩
 have X1 := hide (show Ext w w1 by rw [hw1]; exact (((Ext.refl _).alloc _).alloc _).alloc _)
 have F1 := hide (show Blk w1 w.heap.size 28 #[.int .i64 fx, .int .i64 fy] by rw [hw1]; exact (Blk.new_ rfl).over.over)
 have T1 := hide (show Blk w1 (w.heap.size + 1) 28 #[.int .i64 tx, .int .i64 ty] by rw [hw1]; exact (Blk.new_ (by simp)).over)
 have R1 := hide (show Blk w1 (w.heap.size + 1 + 1) 40 #[.slice none 0 0, .int .u64 0, .int .i64 0] by rw [hw1]; exact Blk.new_ (by simp))
 rw [← hw1]
 obtain ⟨fb, hfb⟩ : ∃ z, w.heap.size = z := ⟨_, rfl⟩
 have HFB := hide hfb
 have HZ1 := hide (show w1.heap.size = fb + 3 by rw [hw1, ← hfb]; simp)
 rw [hfb] at F1 T1 R1 ⊢
 clear hw1 hfb
 have f0 := F1.out.at 0 rfl; have f1 := F1.out.at 1 rfl; have fz := F1.out.lt
 have t0 := T1.out.at 0 rfl; have t1 := T1.out.at 1 rfl; have tz := T1.out.lt
 go_wp2_with fail
 refine (HLK.out _ X1.out).mono ?_
 rintro e w2 (⟨h1, rfl, x2⟩ | ⟨h1, lb, fa, fc, ga, gc, rfl, x2, L⟩)
 ·have X2 := hide (X1.out.trans x2)
  have R2 := hide (R1.out.ext x2)
  have H1 := hide h1
  clear x2 h1 f0 f1 fz t0 t1 tz
  have r0 := R2.out.at 0 rfl; have r1 := R2.out.at 1 rfl; have r2 := R2.out.at 2 rfl; have rz := R2.out.lt
  have g0 := R2.out.frozen 0
  have g1 := R2.out.frozen 1
  have g2 := R2.out.frozen 2
  go_wp2_with fail
  refine bodyPost_ret (v := .tuple #[.agg #[.slice none 0 0, .int .u64 0, .int .i64 0], .int .i64 10]) (by simp [results, Tryz.results12, go_sem, *]) rfl ?_
  refine ⟨((X2.out.setCell (p := ⟨fb + 1 + 1, 0, none⟩) (by have := HFB.out; simp; omega) _).setCell (p := ⟨fb + 1 + 1, 1, none⟩) (by have := HFB.out; simp; omega) _).setCell (p := ⟨fb + 1 + 1, 2, none⟩) (by have := HFB.out; simp; omega) _, [], 0, 0, 10, _, .inl ⟨fun hh => ?_, rfl, rfl, rfl, rfl⟩, rfl, Own.nil _ _ _ _⟩
  have := H1.out
  simp [hh.1, hh.2] at this
 ·have X2 := hide (X1.out.trans x2)
  have R2 := hide (R1.out.ext x2)
  have F2 := hide (F1.out.ext x2)
  have T2 := hide (T1.out.ext x2)
  have HIN := hide (show inB W H fx fy = true ∧ inB W H tx ty = true by simpa using h1)
  have HL := hide L
  have z2 := x2.size
  have HZ2 := hide z2
  clear x2 h1 L f0 f1 fz t0 t1 tz F1 T1 R1 z2
  have r0 := R2.out.at 0 rfl; have r1 := R2.out.at 1 rfl; have r2 := R2.out.at 2 rfl; have rz := R2.out.lt
  have f0 := F2.out.at 0 rfl; have f1 := F2.out.at 1 rfl; have fz := F2.out.lt
  have t0 := T2.out.at 0 rfl; have t1 := T2.out.at 1 rfl; have tz := T2.out.lt
  have g0 := R2.out.frozen 0
  have g1 := R2.out.frozen 1
  have g2 := R2.out.frozen 2
  by_cases hb : b < 0
  ·have hd : decide (b < 0) = true := decide_eq_true hb
   have HB := hide hb
   clear hb
   go_wp2_with fail
   refine bodyPost_ret (v := .tuple #[.agg #[.slice none 0 0, .int .u64 0, .int .i64 0], .int .i64 1]) (by simp [results, Tryz.results12, go_sem, *]) rfl ?_
   exact ⟨((X2.out.setCell (p := ⟨fb + 1 + 1, 0, none⟩) (by have := HFB.out; simp; omega) _).setCell (p := ⟨fb + 1 + 1, 1, none⟩) (by have := HFB.out; simp; omega) _).setCell (p := ⟨fb + 1 + 1, 2, none⟩) (by have := HFB.out; simp; omega) _, [], 0, 0, 1, _, .inr (.inl ⟨HIN.out, HB.out, rfl, rfl, rfl, rfl⟩), rfl, Own.nil _ _ _ _⟩
  ·have hd : decide (b < 0) = false := decide_eq_false hb
   have HB := hide hb
   have HC1 := hide (fun (w' : World) (x : Ext w2 w') => cost_any (HL.out.ext x) (c := (fx, fy)) HIN.out.1)
   have HC2 := hide (fun (w' : World) (x : Ext w2 w') => cost_any (HL.out.ext x) (c := (tx, ty)) HIN.out.2)
   obtain ⟨c1, hc1⟩ : ∃ z, costI l W (fx, fy) = z := ⟨_, rfl⟩
   obtain ⟨c2, hc2⟩ : ∃ z, costI l W (tx, ty) = z := ⟨_, rfl⟩
   have HCC := hide (And.intro hc1 hc2)
   rw [hc1] at HC1
   rw [hc2] at HC2
   simp only at HC1 HC2
   clear hb hc1 hc2
   by_cases hz1 : c1 = 0
   ·subst hz1
    clear HC2
    go_wp2_with fail
    refine (HC1.out _ (Ext.refl _)).mono ?_
    rintro e w5 ⟨rfl, x5⟩
    have X5 := hide (X2.out.trans x5)
    have R5 := hide (R2.out.ext x5)
    clear x5 r0 r1 r2 rz f0 f1 fz t0 t1 tz g0 g1 g2
    have r0 := R5.out.at 0 rfl; have r1 := R5.out.at 1 rfl; have r2 := R5.out.at 2 rfl; have rz := R5.out.lt
    have g0 := R5.out.frozen 0
    have g1 := R5.out.frozen 1
    have g2 := R5.out.frozen 2
    go_wp2_with fail
    refine bodyPost_ret (v := .tuple #[.agg #[.slice none 0 0, .int .u64 0, .int .i64 0], .int .i64 22]) (by simp [results, Tryz.results12, go_sem, *]) rfl ?_
    exact ⟨((X5.out.setCell (p := ⟨fb + 1 + 1, 0, none⟩) (by have := HFB.out; simp; omega) _).setCell (p := ⟨fb + 1 + 1, 1, none⟩) (by have := HFB.out; simp; omega) _).setCell (p := ⟨fb + 1 + 1, 2, none⟩) (by have := HFB.out; simp; omega) _, [], 0, 0, 22, _, .inr (.inr (.inl ⟨HIN.out, by have := HB.out; omega, .inl HCC.out.1, rfl, rfl, rfl, rfl⟩)), rfl, Own.nil _ _ _ _⟩
   ·have hq1 : (c1 == 0) = false := by simpa using hz1
    have HZ1c := hide hz1
    clear hz1
    go_wp2_with fail
    refine (HC1.out _ (Ext.refl _)).mono ?_
    rintro e w4 ⟨rfl, x4⟩
    have X4 := hide x4
    have R4 := hide (R2.out.ext x4)
    have F4 := hide (F2.out.ext x4)
    have T4 := hide (T2.out.ext x4)
    clear x4 r0 r1 r2 rz f0 f1 fz t0 t1 tz g0 g1 g2
    have t0 := T4.out.at 0 rfl; have t1 := T4.out.at 1 rfl; have tz := T4.out.lt
    by_cases hz2 : c2 = 0
    ·subst hz2
     go_wp2_with fail
     refine (HC2.out _ X4.out).mono ?_
     rintro e w5 ⟨rfl, x5⟩
     have X5 := hide (X2.out.trans (X4.out.trans x5))
     have R5 := hide (R4.out.ext x5)
     clear x5 t0 t1 tz
     have r0 := R5.out.at 0 rfl; have r1 := R5.out.at 1 rfl; have r2 := R5.out.at 2 rfl; have rz := R5.out.lt
     have g0 := R5.out.frozen 0
     have g1 := R5.out.frozen 1
     have g2 := R5.out.frozen 2
     go_wp2_with fail
     refine bodyPost_ret (v := .tuple #[.agg #[.slice none 0 0, .int .u64 0, .int .i64 0], .int .i64 22]) (by simp [results, Tryz.results12, go_sem, *]) rfl ?_
     exact ⟨((X5.out.setCell (p := ⟨fb + 1 + 1, 0, none⟩) (by have := HFB.out; simp; omega) _).setCell (p := ⟨fb + 1 + 1, 1, none⟩) (by have := HFB.out; simp; omega) _).setCell (p := ⟨fb + 1 + 1, 2, none⟩) (by have := HFB.out; simp; omega) _, [], 0, 0, 22, _, .inr (.inr (.inl ⟨HIN.out, by have := HB.out; omega, .inr HCC.out.2, rfl, rfl, rfl, rfl⟩)), rfl, Own.nil _ _ _ _⟩
    ·have hq2 : (c2 == 0) = false := by simpa using hz2
     have HZ2c := hide hz2
     clear hz2
     go_wp2_with fail
     refine (HC2.out _ X4.out).mono ?_
     rintro e w5 ⟨rfl, x5⟩
     have X25 := hide (X4.out.trans x5)
     have R5 := hide (R4.out.ext x5)
     have F5 := hide (F4.out.ext x5)
     clear x5 t0 t1 tz F4 T4 R4 X4 HC1 HC2
     have hmm := @run_makeMap Tryz.prog
     have HLN := hide (idx_len (c := (fx, fy)) (checkE_ok.1 g.ok).2 HIN.out.1)
     have hfn : (fx, fy) ∈ nodesL W H (gatesA W H s l) (fx, fy) (tx, ty) := by
      have := inB_true.1 HIN.out.1
      exact nodesL_mem.2 ⟨by simp only; omega, .inl rfl⟩
     have HI0 := hide (linv_start (G := hGr g hl (fx, fy) (tx, ty)) (s := idxN W (fx, fy)) ((opH_iff g).2 ⟨_, hfn, rfl⟩))
     clear hfn
     go_wp2_with fail
     refine (hNew_any _).mono ?_
     rintro e w6 ⟨hp, rfl, hh1, x6, hi⟩
     have X26 := hide (X25.out.trans x6)
     have z56 := X25.out.size
     have HI := hide (hi.mono (S' := fun k => w2.heap.size ≤ k) (fun k _ h => by omega))
     have F6 := hide (F5.out.ext x6)
     have R6 := hide (R5.out.ext x6)
     clear hi x6 hh1 z56 X25 F5 R5
     have f0 := F6.out.at 0 rfl; have f1 := F6.out.at 1 rfl; have fz := F6.out.lt
     go_upto_region 9 with (fail)
     obtain ⟨w7, hw7⟩ : ∃ z, z = ((w6.alloc (.map #[] 0)).alloc (.map #[] 0)).alloc (.cells #[.pointer (some ⟨lb, 0, none⟩), .pointer (some ⟨hp, 0, none⟩), .map (some w6.heap.size), .map (some (w6.heap.size + 1))] 108) := ⟨_, rfl⟩
     have X67 := hide (show Ext w6 w7 by rw [hw7]; exact ((((Ext.refl _).alloc _).alloc _).alloc _))
     have HM7 := hide (fresh_hm (W := W) (n := l.length) (sb := w6.heap.size + 1 + 1) (mg := w6.heap.size) (mc := w6.heap.size + 1) HI.out X26.out.size rfl rfl rfl hw7)
     have X27 := hide (X26.out.trans X67.out)
     have F7 := hide (F6.out.ext X67.out)
     have R7 := hide (R6.out.ext X67.out)
     rw [← hw7]
     clear hw7 f0 f1 fz F6 R6 hmm
     obtain ⟨sb, hsb⟩ : ∃ z, w6.heap.size + 1 + 1 = z := ⟨_, rfl⟩
     obtain ⟨mg, hmg⟩ : ∃ z, w6.heap.size = z := ⟨_, rfl⟩
     have HNUM := hide (show sb = mg + 2 ∧ w2.heap.size ≤ mg ∧ w6.heap.size = mg by have := X26.out.size; omega)
     rw [hsb, hmg] at HM7
     rw [hsb]
     clear hsb hmg
     have HRE := hide (hrReach_any HL.out X27.out HM7.out (idxN W (fx, fy)) HLN.out (0, 0) 0 0 (-1) (by omega) (fun u hu => by omega) (fun u hu => absurd rfl hu) (by unfold noneH; simp) (fun h2 => by unfold noneH at h2; cases h2))
     rw [cellV_idx (c := (fx, fy)) HIN.out.1, if_pos (show noneH.takes (idxN W (fx, fy)) 0 from .inl rfl), put_startH] at HRE
     unfold legV at HRE
     simp only at HRE
     have f0 := F7.out.at 0 rfl; have f1 := F7.out.at 1 rfl; have fz := F7.out.lt
     go_wp2_with fail
     refine HRE.out.mono ?_
     rintro e w8 ⟨rfl, m8, t8⟩
     have M8 := hide m8
     have T8 := hide t8
     have X28 : Hid (Ext w2 w8) := hide ((Touch.of_ext (S := fun _ => False) X27.out).after t8 (fun k hk h => by
      have := HNUM.out
      rcases h with h | h | h
      ·have := h.1; omega
      ·omega
      ·omega)).ext
     have R8 := hide (R7.out.touch t8 (fun h => by
      have h1 := R2.out.lt
      have := HNUM.out
      rcases h with h | h | h
      ·have := h.1; omega
      ·omega
      ·omega))
     have HRU := hide (hrRun_any HL.out hl g hgl X28.out (fun j h => h.1) (by have := HNUM.out; omega) M8.out HI0.out (mono_start _) rfl b)
     clear m8 t8 f0 f1 fz HRE
     go_wp2_with fail
     refine HRU.out.mono ?_
     rintro e w9 ⟨⟨pp, cc, kk, er, v, hrun, rfl, ho⟩, t9⟩
     have HRUN := hide hrun
     have X29 : Hid (Ext w2 w9) := hide ((Touch.of_ext (S := fun _ => False) X28.out).after t9 (fun k hk h => by
      have := HNUM.out
      rcases h with h | h | h
      ·have := h.1; omega
      ·omega
      ·omega)).ext
     have R9 := hide (R8.out.touch t9 (fun h => by
      have h1 := R2.out.lt
      have := HNUM.out
      rcases h with h | h | h
      ·have := h.1; omega
      ·omega
      ·omega))
     have z8 := X28.out.size
     have HO := hide (ho.lower (base' := w2.heap.size) (by omega))
     obtain ⟨va, vc, rfl⟩ := ho.slice
     clear hrun ho t9 z8
     have r0 := R9.out.at 0 rfl; have r1 := R9.out.at 1 rfl; have r2 := R9.out.at 2 rfl; have rz := R9.out.lt
     have g0 := R9.out.frozen 0
     have g1 := R9.out.frozen 1
     have g2 := R9.out.frozen 2
     have tF : Touch (fun j => j = fb + 1 + 1) w9 (((w9.setCell ⟨fb + 1 + 1, 0, none⟩ (.slice va pp.length vc)).setCell ⟨fb + 1 + 1, 1, none⟩ (.int .u64 cc)).setCell ⟨fb + 1 + 1, 2, none⟩ (.int .i64 kk)) := (((Touch.refl (fun j => j = fb + 1 + 1) w9).setCell (p := ⟨fb + 1 + 1, 0, none⟩) (.inl rfl) _).setCell (p := ⟨fb + 1 + 1, 1, none⟩) (.inl rfl) _).setCell (p := ⟨fb + 1 + 1, 2, none⟩) (.inl rfl) _
     have HOW := hide (HO.out.touch tF (fun k hk e => by have := (own_lt HO.out hk).1; have := R2.out.lt; omega))
     have HXW := hide (((Touch.of_ext (S := fun _ => False) (X2.out.trans X29.out)).after tF (fun k hk e => by have := HFB.out; omega)).ext)
     clear tF
     go_wp2_with fail
     refine bodyPost_ret (v := .tuple #[.agg #[.slice va pp.length vc, .int .u64 cc, .int .i64 kk], .int .i64 er]) (by simp [results, Tryz.results12, go_sem, *]) rfl ?_
     refine ⟨HXW.out, pp, cc, kk, er, _, .inr (.inr (.inr ⟨HIN.out, by have := HB.out; omega, fun h => ?_, g, hl, HRUN.out⟩)), rfl, HOW.out.lower (by have := X2.out.size; have := HFB.out; omega)⟩
     rcases h with h | h
     ·exact HZ1c.out (HCC.out.1.symm.trans h)
     ·exact HZ2c.out (HCC.out.2.symm.trans h)
end Go.Proofs.YtaellcgglldjaaaGreat

namespace Go.Proofs.YtaellcgglldjaaaGreat
open Go.RowKit
def runLF (legs : Nat → List (Nat × Int)) (W : Int) (n t : Nat) (b : Int) : Nat → AS → Option (List Nat × Int × Int × Int)
 | 0, _ => none
 | k + 1, A => match bestN W (fun _ => 0) A n with
  | none => some ([], 0, A.cnt, 22)
  | some v => if A.cnt = b then some ([], 0, A.cnt, 23) else if v = t then (chainF A.came (n + 1) t).map (fun l => (l, A.g t, A.cnt + 1, 0)) else runLF legs W n t b k (rls v (A.settle v) (legs v))
theorem bestL_best {W : Int} {A : AS} {n v : Nat} (hb : bestN W (fun _ => 0) A n = some v) (hlt : ∀ u, A.st u = 1 → u < n) : IsBest W (fun _ => 0) A v :=
 ⟨(bestN_some hb).2.1, fun u hu => (bestN_some hb).2.2 u (hlt u hu) hu⟩
theorem runLF_ok {G : LGr} {legs : Nat → List (Nat × Int)} {W : Int} {t : Nat} {b : Int} {P : List Nat → List Cell} (hlegs : ∀ v, G.op v = true → G.legs v = legs v) : ∀ {k : Nat} {A : AS} {p : List Nat} {c n e : Int}, (∀ u, A.st u = 1 → G.op u = true) → runLF legs W G.n t b k A = some (p, c, n, e) → e = 0 → LRun G W t b P A (P p) c n e
 | 0, _, _, _, _, _, _, hr, _ => by cases hr
 | k + 1, A, p, c, n, e, hlt, hr, he => by
  unfold runLF at hr
  have hlt2 : ∀ u, A.st u = 1 → u < G.n := fun u hu => G.lt u (hlt u hu)
  cases hb : bestN W (fun _ => 0) A G.n
  ·rw [hb] at hr
   cases hr
   cases he
  ·rename_i v
   rw [hb] at hr
   simp only at hr
   have hB := bestL_best hb hlt2
   split at hr
   ·next h1 => cases hr; cases he
   ·next h1 =>
    split at hr
    ·next h2 =>
     subst h2
     cases hc : chainF A.came (G.n + 1) v
     ·rw [hc] at hr; cases hr
     ·rw [hc] at hr
      cases hr
      exact .found hB h1 (chainF_ok hc)
    ·next h2 =>
     have hov := hlt v hB.1
     rw [← hlegs v hov] at hr
     refine .next hB h1 h2 (runLF_ok hlegs (fun u hu => ?_) hr he)
     rcases (stepL_st G A v u).2.2 hu with k | ⟨x, k⟩
     ·exact hlt u k
     ·exact (G.leg v hov _ k).1
def tabN (t : List Int) (v : Nat) : Int := t.getD v infI
def tabOkN (G : Net) (s : Nat) (t : List Int) : Bool :=
 decide (t.length = G.n) && decide (tabN t s = 0) && (List.range G.n).all (fun v => (G.op v || decide (tabN t v = infI)) && decide (0 ≤ tabN t v) && decide (tabN t v ≤ infI) &&
  (!G.op v || decide (v = s) || ((G.adj v).all (fun u => !G.op u || decide (infI ≤ tabN t u + G.cost v) || decide (tabN t v ≤ tabN t u + G.cost v)) && (decide (infI ≤ tabN t v) || (G.adj v).any (fun u => G.op u && decide (tabN t u + G.cost v = tabN t v))))))
theorem tab_farN {G : Net} {s : Nat} {t : List Int} (h : tabOkN G s t = true) : IsFar G s (tabN t) := by
 unfold tabOkN at h
 simp only [Bool.and_eq_true, decide_eq_true_eq, List.all_eq_true, List.mem_range] at h
 obtain ⟨⟨h8, h0⟩, ha⟩ := h
 have hbig : ∀ v, G.n ≤ v → tabN t v = infI := fun v hv => by
  unfold tabN
  rw [List.getD_eq_getElem?_getD, List.getElem?_eq_none (by omega)]
  rfl
 have hlt : ∀ v, G.op v = true → v < G.n := fun v hv => G.lt v hv
 refine ⟨fun _ => h0, ?_, ?_, ?_, ?_, ?_⟩
 ·intro v hv
  by_cases h : v < G.n
  ·have := (ha v h).1.1.1
   rw [hv] at this
   simpa using this
  ·exact hbig v (by omega)
 ·intro v
  by_cases h : v < G.n
  ·exact (ha v h).1.1.2
  ·rw [hbig v (by omega)]; decide
 ·intro v
  by_cases h : v < G.n
  ·exact (ha v h).1.2
  ·rw [hbig v (by omega)]; exact Int.le_refl _
 ·intro v hv hs u hu huo hl
  have h1 := (ha v (hlt v hv)).2
  rw [hv] at h1
  simp only [Bool.not_true, Bool.false_or, Bool.or_eq_true, decide_eq_true_eq, Bool.and_eq_true, List.all_eq_true] at h1
  rcases h1 with h1 | h1
  ·exact absurd h1 hs
  ·rcases h1.1 u hu with (h2 | h2) | h2
   ·rw [huo] at h2; cases h2
   ·omega
   ·exact h2
 ·intro v hv hs hl
  have h1 := (ha v (hlt v hv)).2
  rw [hv] at h1
  simp only [Bool.not_true, Bool.false_or, Bool.or_eq_true, decide_eq_true_eq, Bool.and_eq_true, List.any_eq_true] at h1
  rcases h1 with h1 | h1
  ·exact absurd h1 hs
  ·rcases h1.2 with h2 | ⟨u, u1, u2, u3⟩
   ·omega
   ·exact ⟨u, u1, u2, u3⟩
def aw15 : List Int := [1, 1, 1, 1, 1, 1, 1, 1]
theorem aw15_good : Good 4 2 2 aw15 := ⟨by decide, by decide, by intro x hx; simp [aw15] at hx; omega⟩
theorem aw15_g : gatesA 4 2 2 aw15 = [((1, 0), (2, 0))] := (refAll_eq (N := 2) (by decide) (by decide)).symm.trans (by decide +kernel)
theorem aw15_n : nodesL 4 2 [((1, 0), (2, 0))] (0, 1) (3, 1) = [(1, 0), (2, 0), (0, 1), (3, 1)] := by decide +kernel
def inf15 : Int := 18446744073709551615
theorem aw15_box (id : Int) (h : 0 ≤ id ∧ id < cnt 4 2 2) : boxL 4 2 2 id aw15 := aw15_good.box h
theorem o10 : ofN 4 2 (1, 0).1 (1, 0).2 = 0 := by decide
theorem o20 : ofN 4 2 (2, 0).1 (2, 0).2 = 1 := by decide
theorem o01 : ofN 4 2 (0, 1).1 (0, 1).2 = 0 := by decide
theorem o31 : ofN 4 2 (3, 1).1 (3, 1).2 = 1 := by decide
theorem aw15_L0 : boxL 4 2 2 0 aw15 := aw15_box 0 (by decide)
theorem aw15_L1 : boxL 4 2 2 1 aw15 := aw15_box 1 (by decide)
theorem dist_tab {a : Cell} {id : Int} (h : ofN 4 2 a.1 a.2 = id) (L : boxL 4 2 2 id aw15) {t : List Int} (ht : tabOkN (mapNet (W := 4) (H := 2) (l := aw15) L) (idxN 4 a) t = true) (c : Cell) : distB 4 2 2 aw15 a c = tabN t (idxN 4 c) := by
 subst h
 unfold distB
 rw [dif_pos L]
 exact (farD_one L (tab_farN ht) _).symm
theorem tb4 : tabOkN (mapNet (W := 4) (H := 2) (l := aw15) aw15_L0) 4 [1, 2, inf15, inf15, 0, 1, inf15, inf15] = true := by decide +kernel
theorem tb1 : tabOkN (mapNet (W := 4) (H := 2) (l := aw15) aw15_L0) 1 [1, 0, inf15, inf15, 2, 1, inf15, inf15] = true := by decide +kernel
theorem tb2 : tabOkN (mapNet (W := 4) (H := 2) (l := aw15) aw15_L1) 2 [inf15, inf15, 0, 1, inf15, inf15, 1, 2] = true := by decide +kernel
theorem tb7 : tabOkN (mapNet (W := 4) (H := 2) (l := aw15) aw15_L1) 7 [inf15, inf15, 2, 1, inf15, inf15, 1, 0] = true := by decide +kernel
theorem aw15_l4 : legsL 4 2 2 aw15 [((1, 0), (2, 0))] (0, 1) (3, 1) (0, 1) = [((1, 0), 2)] := by
 have hd := dist_tab (a := (0, 1)) o01 aw15_L0 tb4
 unfold legsL legsIn
 rw [aw15_n]
 simp only [hd]
 decide +kernel
theorem aw15_l1 : legsL 4 2 2 aw15 [((1, 0), (2, 0))] (0, 1) (3, 1) (1, 0) = [((0, 1), 2), ((2, 0), 1)] := by
 have hd := dist_tab (a := (1, 0)) o10 aw15_L0 tb1
 unfold legsL legsIn
 rw [aw15_n]
 simp only [hd]
 decide +kernel
theorem aw15_l2 : legsL 4 2 2 aw15 [((1, 0), (2, 0))] (0, 1) (3, 1) (2, 0) = [((3, 1), 2), ((1, 0), 1)] := by
 have hd := dist_tab (a := (2, 0)) o20 aw15_L1 tb2
 unfold legsL legsIn
 rw [aw15_n]
 simp only [hd]
 decide +kernel
theorem aw15_l7 : legsL 4 2 2 aw15 [((1, 0), (2, 0))] (0, 1) (3, 1) (3, 1) = [((2, 0), 2)] := by
 have hd := dist_tab (a := (3, 1)) o31 aw15_L1 tb7
 unfold legsL legsIn
 rw [aw15_n]
 simp only [hd]
 decide +kernel
def aw15_legs (v : Nat) : List (Nat × Int) := if v = 4 then [(1, 2)] else if v = 1 then [(4, 2), (2, 1)] else if v = 2 then [(7, 2), (1, 1)] else [(2, 2)]
theorem aw15_hl : aw15.length ≤ 150 := by decide
theorem aw15_legsOk (v : Nat) (hv : (hGr aw15_good aw15_hl (0, 1) (3, 1)).op v = true) : (hGr aw15_good aw15_hl (0, 1) (3, 1)).legs v = aw15_legs v := by
 obtain ⟨c, hc, rfl⟩ := (opH_iff aw15_good).1 hv
 have hin := node_in aw15_good hc
 show legsV 4 2 2 aw15 (gatesA 4 2 2 aw15) (0, 1) (3, 1) (idxN 4 c) = _
 unfold legsV
 rw [cellV_idx hin]
 rw [aw15_g] at hc ⊢
 rw [aw15_n] at hc
 simp only [List.mem_cons, List.not_mem_nil, or_false] at hc
 rcases hc with rfl | rfl | rfl | rfl
 ·rw [aw15_l1]; decide
 ·rw [aw15_l2]; decide
 ·rw [aw15_l4]; decide
 ·rw [aw15_l7]; decide
theorem way_tab {u v : Cell} {id : Int} (h : ofN 4 2 u.1 u.2 = id) (h2 : ofN 4 2 v.1 v.2 = id) (L : boxL 4 2 2 id aw15) {t : List Int} (ht : tabOkN (mapNet (W := 4) (H := 2) (l := aw15) L) (idxN 4 u) t = true) {p : List Nat} (hp : BackP (mapNet (W := 4) (H := 2) (l := aw15) L) (tabN t) (idxN 4 v) p) : wayB 4 2 2 aw15 u v = (p.reverse.map (cellV 4)).drop 1 := by
 subst h
 have e : farD (W := 4) (H := 2) (l := aw15) L u = tabN t := funext fun x => (farD_one (W := 4) (H := 2) (l := aw15) L (tab_farN ht) x).symm
 exact wayB_in h2 L (by rw [e]; exact hp)
theorem aw15_w1 : wayB 4 2 2 aw15 (2, 0) (3, 1) = [(3, 0), (3, 1)] := by
 rw [way_tab (u := (2, 0)) (v := (3, 1)) o20 o31 aw15_L1 tb2 (p := [7, 3, 2]) (.step (by decide +kernel) (u := 3) (by decide +kernel) (.step (by decide +kernel) (u := 2) (by decide +kernel) (.done (by decide +kernel))))]
 decide +kernel
theorem aw15_w2 : wayB 4 2 2 aw15 (1, 0) (2, 0) = [(2, 0)] := wayB_gate (by decide)
theorem aw15_w3 : wayB 4 2 2 aw15 (0, 1) (1, 0) = [(1, 1), (1, 0)] := by
 rw [way_tab (u := (0, 1)) (v := (1, 0)) o01 o10 aw15_L0 tb4 (p := [1, 5, 4]) (.step (by decide +kernel) (u := 5) (by decide +kernel) (.step (by decide +kernel) (u := 4) (by decide +kernel) (.done (by decide +kernel))))]
 decide +kernel
theorem aw15_path : pathH 4 2 2 aw15 (0, 1) [7, 2, 1, 4] = [(0, 1), (1, 1), (1, 0), (2, 0), (3, 0), (3, 1)] := by
 unfold pathH
 show (0, 1) :: pathT (fun u v => wayB 4 2 2 aw15 (cellV 4 u) (cellV 4 v)) (wayB 4 2 2 aw15 (cellV 4 4) (cellV 4 1) ++ (wayB 4 2 2 aw15 (cellV 4 1) (cellV 4 2) ++ (wayB 4 2 2 aw15 (cellV 4 2) (cellV 4 7) ++ []))) [4] = _
 rw [show cellV 4 4 = (0, 1) by decide, show cellV 4 1 = (1, 0) by decide, show cellV 4 2 = (2, 0) by decide, show cellV 4 7 = (3, 1) by decide, aw15_w1, aw15_w2, aw15_w3]
 rfl
theorem aw15_srch : HSrch 4 2 2 aw15 (0, 1) (3, 1) 9 [(0, 1), (1, 1), (1, 0), (2, 0), (3, 0), (3, 1)] 5 4 0 := by
 refine .inr (.inr (.inr ⟨⟨by decide, by decide⟩, by decide, by decide, aw15_good, aw15_hl, ?_⟩))
 have h := runLF_ok (G := hGr aw15_good aw15_hl (0, 1) (3, 1)) (legs := aw15_legs) (W := 4) (t := 7) (b := 9) (P := pathH 4 2 2 aw15 (0, 1)) aw15_legsOk (k := 9) (A := start0 4) (p := [7, 2, 1, 4]) (c := 5) (n := 4) (e := 0) (fun u hu => by
  have hu4 : u = 4 := by
   unfold start0 updN at hu
   simp only at hu
   split at hu
   ·assumption
   ·cases hu
  subst hu4
  show opH 4 2 (gatesA 4 2 2 aw15) (0, 1) (3, 1) aw15.length 4 = true
  refine (opH_iff aw15_good).2 ⟨(0, 1), ?_, (show idxN 4 (0, 1) = 4 by decide)⟩
  rw [aw15_g, aw15_n]
  decide) (by show runLF aw15_legs 4 8 7 9 9 (start0 4) = _; decide +kernel) rfl
 rw [aw15_path] at h
 exact h
end Go.Proofs.YtaellcgglldjaaaGreat

