/- Walk of star.Find: its errors. -/
import Derived.Test.YtifbmapianddcaaStarH
import Derived.Deep.Cut
set_option linter.all false
set_option linter.unusedVariables false
set_option linter.unusedSimpArgs false
namespace Go.Proofs.Ytifbmapianddcaa
open Go.RowKit

/-- What a search is refused for. -/
def findE (W H : Int) (n : Nat) (x y tx ty b : Int) : Int :=
  if checkE W H n = 0 then (if inB W H x y = true ∧ inB W H tx ty = true then (if b < 0 then 1 else 0) else 10) else checkE W H n
theorem findE_ok {W H : Int} {n : Nat} {x y tx ty b : Int} : findE W H n x y tx ty b = 0 ↔ checkE W H n = 0 ∧ inB W H x y = true ∧ inB W H tx ty = true ∧ 0 ≤ b := by
  unfold findE
  split
  · next h =>
    split
    · next h2 =>
      split
      · next h3 => exact ⟨(fun e => absurd e (by decide)), (fun e => by omega)⟩
      · next h3 => exact ⟨fun _ => ⟨h, h2.1, h2.2, by omega⟩, fun _ => rfl⟩
    · next h2 => exact ⟨(fun e => absurd e (by decide)), fun e => absurd ⟨e.2.1, e.2.2.1⟩ h2⟩
  · next h => exact ⟨fun e => absurd e h, fun e => absurd e.1 h⟩

set_option maxRecDepth 100000 in
theorem sFind_bad {w : World} (W H : Int) (a : Option Addr) (n c : Nat) (x y tx ty b : Int) (he : findE W H n x y tx ty b ≠ 0) :
    Calls Try.prog 18 #[.agg #[.int .i64 W, .int .i64 H, .slice a n c], .agg #[.int .i64 x, .int .i64 y], .agg #[.int .i64 tx, .int .i64 ty], .int .i64 b] w fun e w' => e = .returned (.tuple #[.agg #[.slice none 0 0, .int .u64 0, .int .i64 0], .int .i64 (findE W H n x y tx ty b)]) ∧ Ext w w' := by
  have HC := hide (fun w' => gCheck_any W H a n c w')
  have H1 := hide (fun w' => in_any W H x y w')
  have H2 := hide (fun w' => in_any W H tx ty w')
  by_cases hc : checkE W H n = 0
  · rw [hc] at HC
    by_cases hi : inB W H x y = true
    · rw [hi] at H1
      by_cases ht : inB W H tx ty = true
      · rw [ht] at H2
        have hb : b < 0 := by
          rcases Int.lt_or_le b 0 with h | h
          · exact h
          · exact absurd (findE_ok.2 ⟨hc, hi, ht, h⟩) he
        have e0 : findE W H n x y tx ty b = 1 := by unfold findE; rw [if_pos hc, if_pos ⟨hi, ht⟩, if_pos hb]
        have hb' : decide (b < 0) = true := by simpa using hb
        rw [e0]
        clear e0 he hc hi ht hb
        go_enter Try.func18, Try.ntmps18
        go_wp2_with fail
        refine (HC.out _).mono ?_
        rintro e w1 ⟨rfl, hb1⟩
        obtain ⟨hc1, hf1⟩ := hb1.cells; have hz1 := hb1.size; (repeat (first | rw [World.size_alloc] at hz1 | rw [World.size_drew] at hz1)); have z1_0 : w.heap.size < w1.heap.size := (by omega); have z1_1 : w.heap.size + 1 < w1.heap.size := (by omega); have z1_2 : w.heap.size + 2 < w1.heap.size := (by omega); have z1_3 : w.heap.size + 3 < w1.heap.size := (by omega)
        go_wp2_with fail
        refine (H1.out _).mono ?_
        rintro e w2 ⟨rfl, hb2⟩
        obtain ⟨hc2, hf2⟩ := hb2.cells; have hz2 := hb2.size; (repeat (first | rw [World.size_alloc] at hz2 | rw [World.size_drew] at hz2)); have z2_0 : w.heap.size < w2.heap.size := (by omega); have z2_1 : w.heap.size + 1 < w2.heap.size := (by omega); have z2_2 : w.heap.size + 2 < w2.heap.size := (by omega); have z2_3 : w.heap.size + 3 < w2.heap.size := (by omega)
        go_wp2_with fail
        refine (H2.out _).mono ?_
        rintro e w3 ⟨rfl, hb3⟩
        obtain ⟨hc3, hf3⟩ := hb3.cells; have hz3 := hb3.size; (repeat (first | rw [World.size_alloc] at hz3 | rw [World.size_drew] at hz3)); have z3_0 : w.heap.size < w3.heap.size := (by omega); have z3_1 : w.heap.size + 1 < w3.heap.size := (by omega); have z3_2 : w.heap.size + 2 < w3.heap.size := (by omega); have z3_3 : w.heap.size + 3 < w3.heap.size := (by omega)
        go_wp2_with fail
        exact bodyPost_ret (v := .tuple #[.agg #[.slice none 0 0, .int .u64 0, .int .i64 0], .int .i64 1]) (by simp [results, Try.results18, go_sem, *]) rfl ⟨rfl, (by (with_reducible (repeat' (first | exact Ext.refl _ | assumption | refine Ext.drew ?_ | refine Ext.drewN ?_ _ | refine Ext.alloc ?_ _ | refine Ext.setCell ?_ ?_ _ | refine Ext.trans ?_ (by assumption)))); all_goals (first | (simp; done) | (simp; omega)))⟩
      · have ht' : inB W H tx ty = false := by simpa using ht
        rw [ht'] at H2
        have e0 : findE W H n x y tx ty b = 10 := by unfold findE; rw [if_pos hc, if_neg (fun e => ht e.2)]
        rw [e0]
        clear e0 he hc hi ht ht'
        go_enter Try.func18, Try.ntmps18
        go_wp2_with fail
        refine (HC.out _).mono ?_
        rintro e w1 ⟨rfl, hb1⟩
        obtain ⟨hc1, hf1⟩ := hb1.cells; have hz1 := hb1.size; (repeat (first | rw [World.size_alloc] at hz1 | rw [World.size_drew] at hz1)); have z1_0 : w.heap.size < w1.heap.size := (by omega); have z1_1 : w.heap.size + 1 < w1.heap.size := (by omega); have z1_2 : w.heap.size + 2 < w1.heap.size := (by omega); have z1_3 : w.heap.size + 3 < w1.heap.size := (by omega)
        go_wp2_with fail
        refine (H1.out _).mono ?_
        rintro e w2 ⟨rfl, hb2⟩
        obtain ⟨hc2, hf2⟩ := hb2.cells; have hz2 := hb2.size; (repeat (first | rw [World.size_alloc] at hz2 | rw [World.size_drew] at hz2)); have z2_0 : w.heap.size < w2.heap.size := (by omega); have z2_1 : w.heap.size + 1 < w2.heap.size := (by omega); have z2_2 : w.heap.size + 2 < w2.heap.size := (by omega); have z2_3 : w.heap.size + 3 < w2.heap.size := (by omega)
        go_wp2_with fail
        refine (H2.out _).mono ?_
        rintro e w3 ⟨rfl, hb3⟩
        obtain ⟨hc3, hf3⟩ := hb3.cells; have hz3 := hb3.size; (repeat (first | rw [World.size_alloc] at hz3 | rw [World.size_drew] at hz3)); have z3_0 : w.heap.size < w3.heap.size := (by omega); have z3_1 : w.heap.size + 1 < w3.heap.size := (by omega); have z3_2 : w.heap.size + 2 < w3.heap.size := (by omega); have z3_3 : w.heap.size + 3 < w3.heap.size := (by omega)
        go_wp2_with fail
        exact bodyPost_ret (v := .tuple #[.agg #[.slice none 0 0, .int .u64 0, .int .i64 0], .int .i64 10]) (by simp [results, Try.results18, go_sem, *]) rfl ⟨rfl, (by (with_reducible (repeat' (first | exact Ext.refl _ | assumption | refine Ext.drew ?_ | refine Ext.drewN ?_ _ | refine Ext.alloc ?_ _ | refine Ext.setCell ?_ ?_ _ | refine Ext.trans ?_ (by assumption)))); all_goals (first | (simp; done) | (simp; omega)))⟩
    · have hi' : inB W H x y = false := by simpa using hi
      rw [hi'] at H1
      have e0 : findE W H n x y tx ty b = 10 := by unfold findE; rw [if_pos hc, if_neg (fun e => hi e.1)]
      rw [e0]
      clear e0 he hc hi hi'
      go_enter Try.func18, Try.ntmps18
      go_wp2_with fail
      refine (HC.out _).mono ?_
      rintro e w1 ⟨rfl, hb1⟩
      obtain ⟨hc1, hf1⟩ := hb1.cells; have hz1 := hb1.size; (repeat (first | rw [World.size_alloc] at hz1 | rw [World.size_drew] at hz1)); have z1_0 : w.heap.size < w1.heap.size := (by omega); have z1_1 : w.heap.size + 1 < w1.heap.size := (by omega); have z1_2 : w.heap.size + 2 < w1.heap.size := (by omega); have z1_3 : w.heap.size + 3 < w1.heap.size := (by omega)
      go_wp2_with fail
      refine (H1.out _).mono ?_
      rintro e w2 ⟨rfl, hb2⟩
      obtain ⟨hc2, hf2⟩ := hb2.cells; have hz2 := hb2.size; (repeat (first | rw [World.size_alloc] at hz2 | rw [World.size_drew] at hz2)); have z2_0 : w.heap.size < w2.heap.size := (by omega); have z2_1 : w.heap.size + 1 < w2.heap.size := (by omega); have z2_2 : w.heap.size + 2 < w2.heap.size := (by omega); have z2_3 : w.heap.size + 3 < w2.heap.size := (by omega)
      go_wp2_with fail
      exact bodyPost_ret (v := .tuple #[.agg #[.slice none 0 0, .int .u64 0, .int .i64 0], .int .i64 10]) (by simp [results, Try.results18, go_sem, *]) rfl ⟨rfl, (by (with_reducible (repeat' (first | exact Ext.refl _ | assumption | refine Ext.drew ?_ | refine Ext.drewN ?_ _ | refine Ext.alloc ?_ _ | refine Ext.setCell ?_ ?_ _ | refine Ext.trans ?_ (by assumption)))); all_goals (first | (simp; done) | (simp; omega)))⟩
  · have e0 : findE W H n x y tx ty b = checkE W H n := by unfold findE; rw [if_neg hc]
    rw [e0]
    clear e0 he
    generalize checkE W H n = q at *
    have hq : (q != 0) = true := by simpa using hc
    clear hc
    go_enter Try.func18, Try.ntmps18
    go_wp2_with fail
    refine (HC.out _).mono ?_
    rintro e w1 ⟨rfl, hb1⟩
    obtain ⟨hc1, hf1⟩ := hb1.cells; have hz1 := hb1.size; (repeat (first | rw [World.size_alloc] at hz1 | rw [World.size_drew] at hz1)); have z1_0 : w.heap.size < w1.heap.size := (by omega); have z1_1 : w.heap.size + 1 < w1.heap.size := (by omega); have z1_2 : w.heap.size + 2 < w1.heap.size := (by omega); have z1_3 : w.heap.size + 3 < w1.heap.size := (by omega)
    go_wp2_with fail
    exact bodyPost_ret (v := .tuple #[.agg #[.slice none 0 0, .int .u64 0, .int .i64 0], .int .i64 q]) (by simp [results, Try.results18, go_sem, *]) rfl ⟨rfl, (by (with_reducible (repeat' (first | exact Ext.refl _ | assumption | refine Ext.drew ?_ | refine Ext.drewN ?_ _ | refine Ext.alloc ?_ _ | refine Ext.setCell ?_ ?_ _ | refine Ext.trans ?_ (by assumption)))); all_goals (first | (simp; done) | (simp; omega)))⟩
end Go.Proofs.Ytifbmapianddcaa
