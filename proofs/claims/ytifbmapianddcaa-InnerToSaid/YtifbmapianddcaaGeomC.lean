/- Walks of geom's boxes: simple, right, Has, Fits. -/
import Derived.Test.YtifbmapianddcaaRefA
namespace Go.Proofs.Ytifbmapianddcaa
open Go.RowKit

def simpleB (x y : Int) : Bool := betw x (-1048576) 1048576 && betw y (-1048576) 1048576
theorem simple_any (x y : Int) (w : World) : Calls Try.prog 123 #[.agg #[.int .i64 x, .int .i64 y]] w fun e w' => e = .returned (.bool (simpleB x y)) ∧ Ext w w' := by
  go_enter Try.func123, Try.ntmps123
  go_wp2_with (go_at_call 111; refine (between_any _ _ _ _).mono ?_; rintro e w' ⟨rfl, rfl⟩)
  all_goals go_ret
  all_goals exact ⟨by simp [simpleB, *], (by (with_reducible (repeat' (first | exact Ext.refl _ | assumption | refine Ext.drew ?_ | refine Ext.drewN ?_ _ | refine Ext.alloc ?_ _ | refine Ext.setCell ?_ ?_ _ | refine Ext.trans ?_ (by assumption)))); all_goals (first | (simp; done) | (simp; omega)))⟩

def rightG (bx byy bw bh : Int) : Bool := betw bw 0 256 && betw bh 0 256 && simpleB bx byy
theorem rightG_true {bx byy bw bh : Int} : rightG bx byy bw bh = true ↔ 0 ≤ bw ∧ bw ≤ 256 ∧ 0 ≤ bh ∧ bh ≤ 256 ∧ -1048576 ≤ bx ∧ bx ≤ 1048576 ∧ -1048576 ≤ byy ∧ byy ≤ 1048576 := by
  simp only [rightG, simpleB, Bool.and_eq_true, betw_true]; omega

theorem gRight_any (bx byy bw bh : Int) (w : World) : Calls Try.prog 187 #[.agg #[.int .i64 bx, .int .i64 byy, .int .i64 bw, .int .i64 bh]] w fun e w' => e = .returned (.bool (rightG bx byy bw bh)) ∧ Ext w w' := by
  go_enter Try.func187, Try.ntmps187
  go_wp2_with (first
    | (go_at_call 111; refine (between_any _ _ _ _).mono ?_; rintro e w' ⟨rfl, rfl⟩)
    | (go_at_call 123; refine (simple_any _ _ _).mono ?_; rintro e w1 ⟨rfl, hb1⟩; obtain ⟨hc1, hf1⟩ := hb1.cells; have hz1 := hb1.size; (repeat (first | rw [World.size_alloc] at hz1 | rw [World.size_drew] at hz1)); have z1_0 : w.heap.size < w1.heap.size := (by omega)))
  all_goals go_ret
  all_goals exact ⟨by simp [rightG, *], (by (with_reducible (repeat' (first | exact Ext.refl _ | assumption | refine Ext.drew ?_ | refine Ext.drewN ?_ _ | refine Ext.alloc ?_ _ | refine Ext.setCell ?_ ?_ _ | refine Ext.trans ?_ (by assumption)))); all_goals (first | (simp; done) | (simp; omega)))⟩

def hasG (bx byy bw bh x y : Int) : Bool := rightG bx byy bw bh && betw x bx (bx + bw - 1) && betw y byy (byy + bh - 1)
theorem gHas_any (bx byy bw bh x y : Int) (w : World) : Calls Try.prog 148 #[.agg #[.int .i64 bx, .int .i64 byy, .int .i64 bw, .int .i64 bh], .agg #[.int .i64 x, .int .i64 y]] w fun e w' => e = .returned (.bool (hasG bx byy bw bh x y)) ∧ Ext w w' := by
  by_cases hr : rightG bx byy bw bh = true
  · obtain ⟨h1, h2, h3, h4, h5, h6, h7, h8⟩ := rightG_true.1 hr
    go_enter Try.func148, Try.ntmps148
    go_wp2_with (first
      | (go_at_call 187; refine (gRight_any _ _ _ _ _).mono ?_; rintro e w1 ⟨rfl, hb1⟩; obtain ⟨hc1, hf1⟩ := hb1.cells; have hz1 := hb1.size; (repeat (first | rw [World.size_alloc] at hz1 | rw [World.size_drew] at hz1)); have z1_0 : w.heap.size < w1.heap.size := (by omega); have z1_1 : w.heap.size + 1 < w1.heap.size := (by omega))
      | (go_at_call 111; refine (between_any _ _ _ _).mono ?_; rintro e w' ⟨rfl, rfl⟩))
    all_goals go_ret
    all_goals exact ⟨by simp [hasG, *], (by (with_reducible (repeat' (first | exact Ext.refl _ | assumption | refine Ext.drew ?_ | refine Ext.drewN ?_ _ | refine Ext.alloc ?_ _ | refine Ext.setCell ?_ ?_ _ | refine Ext.trans ?_ (by assumption)))); all_goals (first | (simp; done) | (simp; omega)))⟩
  · have hr' : rightG bx byy bw bh = false := by simpa using hr
    go_enter Try.func148, Try.ntmps148
    go_wp2_with (first
      | (go_at_call 187; refine (gRight_any _ _ _ _ _).mono ?_; rintro e w1 ⟨rfl, hb1⟩; obtain ⟨hc1, hf1⟩ := hb1.cells; have hz1 := hb1.size; (repeat (first | rw [World.size_alloc] at hz1 | rw [World.size_drew] at hz1)); have z1_0 : w.heap.size < w1.heap.size := (by omega); have z1_1 : w.heap.size + 1 < w1.heap.size := (by omega)))
    all_goals go_ret
    all_goals exact ⟨by simp [hasG, *], (by (with_reducible (repeat' (first | exact Ext.refl _ | assumption | refine Ext.drew ?_ | refine Ext.drewN ?_ _ | refine Ext.alloc ?_ _ | refine Ext.setCell ?_ ?_ _ | refine Ext.trans ?_ (by assumption)))); all_goals (first | (simp; done) | (simp; omega)))⟩

def fitsG (W H bx byy bw bh : Int) : Bool := rightG bx byy bw bh && decide (0 < bw) && decide (0 < bh) && inB W H bx byy && inB W H (bx + bw - 1) (byy + bh - 1)

theorem gFits_any (W H bx byy bw bh : Int) (w : World) : Calls Try.prog 147 #[.agg #[.int .i64 W, .int .i64 H], .agg #[.int .i64 bx, .int .i64 byy, .int .i64 bw, .int .i64 bh]] w fun e w' => e = .returned (.bool (fitsG W H bx byy bw bh)) ∧ Ext w w' := by
  have I1 := hide (fun w' => in_any W H bx byy w')
  have I2 := hide (fun w' => in_any W H (bx + bw - 1) (byy + bh - 1) w')
  cases hr : rightG bx byy bw bh
  · have R1 := hide (fun w' => gRight_any bx byy bw bh w')
    rw [hr] at R1
    rw [show fitsG W H bx byy bw bh = false by simp [fitsG, hr]]
    clear hr
    go_enter Try.func147, Try.ntmps147
    go_wp2_with (go_at_call 187; refine (R1.out _).mono ?_; rintro e w1 ⟨rfl, hb1⟩)
    go_ret
    exact ⟨rfl, (by (with_reducible (repeat' (first | exact Ext.refl _ | assumption | refine Ext.drew ?_ | refine Ext.drewN ?_ _ | refine Ext.alloc ?_ _ | refine Ext.setCell ?_ ?_ _ | refine Ext.trans ?_ (by assumption)))); all_goals (first | (simp; done) | (simp; omega)))⟩
  · obtain ⟨h1, h2, h3, h4, h5, h6, h7, h8⟩ := rightG_true.1 hr
    have R1 := hide (fun w' => gRight_any bx byy bw bh w')
    rw [hr] at R1
    have k1 : IntKind.i64.wrap (bx + bw) = bx + bw := IntWalk.i64_in _ (by omega)
    have k2 : IntKind.i64.wrap (bx + bw - 1) = bx + bw - 1 := IntWalk.i64_in _ (by omega)
    have k3 : IntKind.i64.wrap (byy + bh) = byy + bh := IntWalk.i64_in _ (by omega)
    have k4 : IntKind.i64.wrap (byy + bh - 1) = byy + bh - 1 := IntWalk.i64_in _ (by omega)
    unfold fitsG
    rw [hr]
    by_cases p1 : 0 < bw
    · by_cases p2 : 0 < bh
      · simp only [p1, p2, decide_true, Bool.true_and]
        generalize inB W H bx byy = b1 at *
        generalize inB W H (bx + bw - 1) (byy + bh - 1) = b2 at *
        clear hr h1 h2 h3 h4 h5 h6 h7 h8
        cases b1
        · go_enter Try.func147, Try.ntmps147
          go_wp2_with (go_at_call 187; refine (R1.out _).mono ?_; rintro e w1 ⟨rfl, hb1⟩; obtain ⟨hc1, hf1⟩ := hb1.cells; have hz1 := hb1.size; (repeat (first | rw [World.size_alloc] at hz1 | rw [World.size_drew] at hz1)); have z1_0 : w.heap.size < w1.heap.size := (by omega); have z1_1 : w.heap.size + 1 < w1.heap.size := (by omega))
          refine (I1.out _).mono ?_
          rintro e w2 ⟨rfl, hb2⟩
          obtain ⟨hc2, hf2⟩ := hb2.cells; have hz2 := hb2.size; (repeat (first | rw [World.size_alloc] at hz2 | rw [World.size_drew] at hz2)); have z2_0 : w.heap.size < w2.heap.size := (by omega); have z2_1 : w.heap.size + 1 < w2.heap.size := (by omega)
          go_wp2_with fail
          go_ret
          exact ⟨rfl, (by (with_reducible (repeat' (first | exact Ext.refl _ | assumption | refine Ext.drew ?_ | refine Ext.drewN ?_ _ | refine Ext.alloc ?_ _ | refine Ext.setCell ?_ ?_ _ | refine Ext.trans ?_ (by assumption)))); all_goals (first | (simp; done) | (simp; omega)))⟩
        · go_enter Try.func147, Try.ntmps147
          go_wp2_with (go_at_call 187; refine (R1.out _).mono ?_; rintro e w1 ⟨rfl, hb1⟩; obtain ⟨hc1, hf1⟩ := hb1.cells; have hz1 := hb1.size; (repeat (first | rw [World.size_alloc] at hz1 | rw [World.size_drew] at hz1)); have z1_0 : w.heap.size < w1.heap.size := (by omega); have z1_1 : w.heap.size + 1 < w1.heap.size := (by omega))
          refine (I1.out _).mono ?_
          rintro e w2 ⟨rfl, hb2⟩
          obtain ⟨hc2, hf2⟩ := hb2.cells; have hz2 := hb2.size; (repeat (first | rw [World.size_alloc] at hz2 | rw [World.size_drew] at hz2)); have z2_0 : w.heap.size < w2.heap.size := (by omega); have z2_1 : w.heap.size + 1 < w2.heap.size := (by omega)
          go_wp2_with fail
          refine (I2.out _).mono ?_
          rintro e w3 ⟨rfl, hb3⟩
          obtain ⟨hc3, hf3⟩ := hb3.cells; have hz3 := hb3.size; (repeat (first | rw [World.size_alloc] at hz3 | rw [World.size_drew] at hz3)); have z3_0 : w.heap.size < w3.heap.size := (by omega); have z3_1 : w.heap.size + 1 < w3.heap.size := (by omega)
          go_wp2_with fail
          go_ret
          exact ⟨by simp, (by (with_reducible (repeat' (first | exact Ext.refl _ | assumption | refine Ext.drew ?_ | refine Ext.drewN ?_ _ | refine Ext.alloc ?_ _ | refine Ext.setCell ?_ ?_ _ | refine Ext.trans ?_ (by assumption)))); all_goals (first | (simp; done) | (simp; omega)))⟩
      · rw [show decide (0 < bh) = false by simpa using p2]
        simp only [Bool.and_false, Bool.false_and]
        go_enter Try.func147, Try.ntmps147
        go_wp2_with (go_at_call 187; refine (R1.out _).mono ?_; rintro e w1 ⟨rfl, hb1⟩; obtain ⟨hc1, hf1⟩ := hb1.cells; have hz1 := hb1.size; (repeat (first | rw [World.size_alloc] at hz1 | rw [World.size_drew] at hz1)); have z1_0 : w.heap.size < w1.heap.size := (by omega); have z1_1 : w.heap.size + 1 < w1.heap.size := (by omega))
        go_ret
        exact ⟨rfl, (by (with_reducible (repeat' (first | exact Ext.refl _ | assumption | refine Ext.drew ?_ | refine Ext.drewN ?_ _ | refine Ext.alloc ?_ _ | refine Ext.setCell ?_ ?_ _ | refine Ext.trans ?_ (by assumption)))); all_goals (first | (simp; done) | (simp; omega)))⟩
    · rw [show decide (0 < bw) = false by simpa using p1]
      simp only [Bool.and_false, Bool.false_and]
      go_enter Try.func147, Try.ntmps147
      go_wp2_with (go_at_call 187; refine (R1.out _).mono ?_; rintro e w1 ⟨rfl, hb1⟩; obtain ⟨hc1, hf1⟩ := hb1.cells; have hz1 := hb1.size; (repeat (first | rw [World.size_alloc] at hz1 | rw [World.size_drew] at hz1)); have z1_0 : w.heap.size < w1.heap.size := (by omega); have z1_1 : w.heap.size + 1 < w1.heap.size := (by omega))
      go_ret
      exact ⟨rfl, (by (with_reducible (repeat' (first | exact Ext.refl _ | assumption | refine Ext.drew ?_ | refine Ext.drewN ?_ _ | refine Ext.alloc ?_ _ | refine Ext.setCell ?_ ?_ _ | refine Ext.trans ?_ (by assumption)))); all_goals (first | (simp; done) | (simp; omega)))⟩

theorem fitsG_eq {W H bx byy bw bh : Int} (hm : mayB W H = true) : fitsG W H bx byy bw bh = fitsR W H bx byy bw bh := by
  have := mayB_true.1 hm
  apply Bool.eq_iff_iff.2
  simp only [fitsG, fitsR, Bool.and_eq_true, decide_eq_true_eq, inB_true, rightG_true]
  omega

theorem fitsR_true {W H bx byy bw bh : Int} : fitsR W H bx byy bw bh = true ↔ 0 ≤ bx ∧ 0 ≤ byy ∧ 1 ≤ bw ∧ 1 ≤ bh ∧ bx + bw ≤ W ∧ byy + bh ≤ H := by
  simp only [fitsR, Bool.and_eq_true, decide_eq_true_eq]; omega

theorem hasG_eq {W H bx byy bw bh x y : Int} (hm : mayB W H = true) (hf : fitsR W H bx byy bw bh = true) : hasG bx byy bw bh x y = hasB bx byy bw bh x y := by
  have := mayB_true.1 hm
  have := fitsR_true.1 hf
  apply Bool.eq_iff_iff.2
  rw [hasB_true]
  simp only [hasG, Bool.and_eq_true, betw_true, rightG_true]
  omega
end Go.Proofs.Ytifbmapianddcaa
