/- Walks of geom's plain functions (between, May, In): what they return, the world grown by new blocks alone. -/
import Derived.Test.YtifbmapianddcaaLib
namespace Go.Proofs.Ytifbmapianddcaa
open Go.RowKit

def betw (n lo hi : Int) : Bool := decide (lo ≤ n) && decide (n ≤ hi)

theorem betw_true {n lo hi : Int} : betw n lo hi = true ↔ lo ≤ n ∧ n ≤ hi := by simp [betw]
theorem betw_false {n lo hi : Int} : betw n lo hi = false ↔ ¬ (lo ≤ n ∧ n ≤ hi) := by rw [← betw_true]; simp

theorem between_any (n lo hi : Int) (w : World) :
    Calls Try.prog 111 #[.int .i64 n, .int .i64 lo, .int .i64 hi] w fun e w' => e = .returned (.bool (betw n lo hi)) ∧ w = w' := by
  unfold betw
  by_cases h1 : lo ≤ n
  · by_cases h2 : n ≤ hi
    · go_enter Try.func111, Try.ntmps111
      go_wp2
      go_ret
      exact ⟨by simp [h1, h2], rfl⟩
    · go_enter Try.func111, Try.ntmps111
      go_wp2
      go_ret
      exact ⟨by simp [h2], rfl⟩
  · go_enter Try.func111, Try.ntmps111
    go_wp2
    go_ret
    exact ⟨by simp; omega, rfl⟩

def mayB (W H : Int) : Bool := betw W 1 256 && betw H 1 256

theorem mayB_true {W H : Int} : mayB W H = true ↔ 1 ≤ W ∧ W ≤ 256 ∧ 1 ≤ H ∧ H ≤ 256 := by simp [mayB, betw, and_assoc]

theorem may_any (W H : Int) (w : World) :
    Calls Try.prog 110 #[.agg #[.int .i64 W, .int .i64 H]] w fun e w' => e = .returned (.bool (mayB W H)) ∧ Ext w w' := by
  go_enter Try.func110, Try.ntmps110
  go_wp2_with (go_at_call 111; refine (between_any _ _ _ _).mono ?_; rintro e w' ⟨rfl, rfl⟩)
  all_goals go_ret
  all_goals exact ⟨by simp [mayB, *], (by (with_reducible (repeat' (first | exact Ext.refl _ | assumption | refine Ext.drew ?_ | refine Ext.drewN ?_ _ | refine Ext.alloc ?_ _ | refine Ext.setCell ?_ ?_ _ | refine Ext.trans ?_ (by assumption)))); all_goals (first | (simp; done) | (simp; omega)))⟩

def inB (W H x y : Int) : Bool := mayB W H && betw x 0 (W - 1) && betw y 0 (H - 1)

theorem inB_true {W H x y : Int} : inB W H x y = true ↔ 1 ≤ W ∧ W ≤ 256 ∧ 1 ≤ H ∧ H ≤ 256 ∧ 0 ≤ x ∧ x < W ∧ 0 ≤ y ∧ y < H := by
  simp only [inB, Bool.and_eq_true, mayB_true, betw_true]; omega

theorem in_any (W H x y : Int) (w : World) :
    Calls Try.prog 66 #[.agg #[.int .i64 W, .int .i64 H], .agg #[.int .i64 x, .int .i64 y]] w fun e w' => e = .returned (.bool (inB W H x y)) ∧ Ext w w' := by
  by_cases hm : mayB W H = true
  · obtain ⟨h1, h2, h3, h4⟩ := mayB_true.1 hm
    go_enter Try.func66, Try.ntmps66
    go_wp2_with (first
      | (go_at_call 110; refine (may_any _ _ _).mono ?_; rintro e w1 ⟨rfl, hb1⟩; obtain ⟨hc1, hf1⟩ := hb1.cells; have hz1 := hb1.size; (repeat (first | rw [World.size_alloc] at hz1 | rw [World.size_drew] at hz1)); have z1_0 : w.heap.size < w1.heap.size := (by omega); have z1_1 : w.heap.size + 1 < w1.heap.size := (by omega))
      | (go_at_call 111; refine (between_any _ _ _ _).mono ?_; rintro e w' ⟨rfl, rfl⟩))
    all_goals go_ret
    all_goals exact ⟨by simp [inB, *], (by (with_reducible (repeat' (first | exact Ext.refl _ | assumption | refine Ext.drew ?_ | refine Ext.drewN ?_ _ | refine Ext.alloc ?_ _ | refine Ext.setCell ?_ ?_ _ | refine Ext.trans ?_ (by assumption)))); all_goals (first | (simp; done) | (simp; omega)))⟩
  · have hm' : mayB W H = false := by simpa using hm
    go_enter Try.func66, Try.ntmps66
    go_wp2_with (first
      | (go_at_call 110; refine (may_any _ _ _).mono ?_; rintro e w1 ⟨rfl, hb1⟩; obtain ⟨hc1, hf1⟩ := hb1.cells; have hz1 := hb1.size; (repeat (first | rw [World.size_alloc] at hz1 | rw [World.size_drew] at hz1)); have z1_0 : w.heap.size < w1.heap.size := (by omega); have z1_1 : w.heap.size + 1 < w1.heap.size := (by omega)))
    all_goals go_ret
    all_goals exact ⟨by simp [inB, *], (by (with_reducible (repeat' (first | exact Ext.refl _ | assumption | refine Ext.drew ?_ | refine Ext.drewN ?_ _ | refine Ext.alloc ?_ _ | refine Ext.setCell ?_ ?_ _ | refine Ext.trans ?_ (by assumption)))); all_goals (first | (simp; done) | (simp; omega)))⟩
end Go.Proofs.Ytifbmapianddcaa
