/- Walks of geom's plain functions (between, May, In): what they return, the world grown by new blocks alone; Walks of part's plain functions: right, across, Count, Of, New, box; Walks of the references' plain functions: Right, Has, Step, Fits; Walks of geom's boxes: simple, right, Has, Fits -/
import Derived.Test.YtkioohhjjdlhiaaGreatLib
set_option linter.all false
set_option linter.unusedVariables false
set_option linter.unusedSimpArgs false
namespace Go.Proofs.YtkioohhjjdlhiaaGreat
open Go.RowKit

def betw (n lo hi : Int) : Bool := decide (lo ≤ n) && decide (n ≤ hi)

theorem betw_true {n lo hi : Int} : betw n lo hi = true ↔ lo ≤ n ∧ n ≤ hi := by simp [betw]
theorem betw_false {n lo hi : Int} : betw n lo hi = false ↔ ¬ (lo ≤ n ∧ n ≤ hi) := by rw [← betw_true]; simp

theorem between_any (n lo hi : Int) (w : World) :
  Calls Tryz.prog 123 #[.int .i64 n, .int .i64 lo, .int .i64 hi] w fun e w' => e = .returned (.bool (betw n lo hi)) ∧ w = w' := by
 unfold betw
 by_cases h1 : lo ≤ n
 ·by_cases h2 : n ≤ hi
  ·go_enter Tryz.func123, Tryz.ntmps123
   go_wp2
   go_ret
   exact ⟨by simp [h1, h2], rfl⟩
  ·go_enter Tryz.func123, Tryz.ntmps123
   go_wp2
   go_ret
   exact ⟨by simp [h2], rfl⟩
 ·go_enter Tryz.func123, Tryz.ntmps123
  go_wp2
  go_ret
  exact ⟨by simp; omega, rfl⟩

def mayB (W H : Int) : Bool := betw W 1 256 && betw H 1 256

theorem mayB_true {W H : Int} : mayB W H = true ↔ 1 ≤ W ∧ W ≤ 256 ∧ 1 ≤ H ∧ H ≤ 256 := by simp [mayB, betw, and_assoc]

theorem may_any (W H : Int) (w : World) :
  Calls Tryz.prog 109 #[.agg #[.int .i64 W, .int .i64 H]] w fun e w' => e = .returned (.bool (mayB W H)) ∧ Ext w w' := by
 go_enter Tryz.func109, Tryz.ntmps109
 go_wp2_with (go_at_call 123; refine (between_any _ _ _ _).mono ?_; rintro e w' ⟨rfl, rfl⟩)
 all_goals go_ret
 all_goals exact ⟨by simp [mayB, *], (by (with_reducible (repeat' (first | exact z_r _ | assumption | refine z_d ?_ | refine z_n ?_ _ | refine z_a ?_ _ | refine z_s ?_ ?_ _ | refine z_t ?_ (by assumption)))); all_goals (simp <;> omega))⟩

def inB (W H x y : Int) : Bool := mayB W H && betw x 0 (W - 1) && betw y 0 (H - 1)

theorem inB_true {W H x y : Int} : inB W H x y = true ↔ 1 ≤ W ∧ W ≤ 256 ∧ 1 ≤ H ∧ H ≤ 256 ∧ 0 ≤ x ∧ x < W ∧ 0 ≤ y ∧ y < H := by
 simp only [inB, Bool.and_eq_true, mayB_true, betw_true]; omega

theorem in_any (W H x y : Int) (w : World) :
  Calls Tryz.prog 78 #[.agg #[.int .i64 W, .int .i64 H], .agg #[.int .i64 x, .int .i64 y]] w fun e w' => e = .returned (.bool (inB W H x y)) ∧ Ext w w' := by
 by_cases hm : mayB W H = true
 ·obtain ⟨h1, h2, h3, h4⟩ := mayB_true.1 hm
  go_enter Tryz.func78, Tryz.ntmps78
  go_wp2_with (first
   | (go_at_call 109; refine (may_any _ _ _).mono ?_; rintro e w1 ⟨rfl, hb1⟩; obtain ⟨hc1, hf1⟩ := hb1.cells; have hz1 := hb1.size; (repeat (first | rw [World.size_alloc] at hz1 | rw [World.size_drew] at hz1)); have z1_0 : w.heap.size < w1.heap.size := (by omega); have z1_1 : w.heap.size + 1 < w1.heap.size := (by omega))
   | (go_at_call 123; refine (between_any _ _ _ _).mono ?_; rintro e w' ⟨rfl, rfl⟩))
  all_goals go_ret
  all_goals exact ⟨by simp [inB, *], (by (with_reducible (repeat' (first | exact z_r _ | assumption | refine z_d ?_ | refine z_n ?_ _ | refine z_a ?_ _ | refine z_s ?_ ?_ _ | refine z_t ?_ (by assumption)))); all_goals (simp <;> omega))⟩
 ·have hm' : mayB W H = false := by simpa using hm
  go_enter Tryz.func78, Tryz.ntmps78
  go_wp2_with (first
   | (go_at_call 109; refine (may_any _ _ _).mono ?_; rintro e w1 ⟨rfl, hb1⟩; obtain ⟨hc1, hf1⟩ := hb1.cells; have hz1 := hb1.size; (repeat (first | rw [World.size_alloc] at hz1 | rw [World.size_drew] at hz1)); have z1_0 : w.heap.size < w1.heap.size := (by omega); have z1_1 : w.heap.size + 1 < w1.heap.size := (by omega)))
  all_goals go_ret
  all_goals exact ⟨by simp [inB, *], (by (with_reducible (repeat' (first | exact z_r _ | assumption | refine z_d ?_ | refine z_n ?_ _ | refine z_a ?_ _ | refine z_s ?_ ?_ _ | refine z_t ?_ (by assumption)))); all_goals (simp <;> omega))⟩

def rightB (W H s : Int) : Bool := mayB W H && decide (2 ≤ s) && decide (s ≤ 16)

theorem rightB_true {W H s : Int} : rightB W H s = true ↔ 1 ≤ W ∧ W ≤ 256 ∧ 1 ≤ H ∧ H ≤ 256 ∧ 2 ≤ s ∧ s ≤ 16 := by
 simp only [rightB, Bool.and_eq_true, mayB_true, decide_eq_true_eq]; omega

theorem right_any (W H s : Int) (w : World) :
  Calls Tryz.prog 76 #[.agg #[.int .i64 W, .int .i64 H, .int .i64 s]] w fun e w' => e = .returned (.bool (rightB W H s)) ∧ Ext w w' := by
 by_cases hm : mayB W H = true
 ·by_cases hs : 2 ≤ s
  ·go_enter Tryz.func76, Tryz.ntmps76
   go_wp2_with (go_at_call 109; refine (may_any _ _ _).mono ?_; rintro e w1 ⟨rfl, hb1⟩; obtain ⟨hc1, hf1⟩ := hb1.cells; have hz1 := hb1.size; (repeat (first | rw [World.size_alloc] at hz1 | rw [World.size_drew] at hz1)); have z1_0 : w.heap.size < w1.heap.size := (by omega))
   all_goals go_ret
   all_goals exact ⟨by simp [rightB, *], (by (with_reducible (repeat' (first | exact z_r _ | assumption | refine z_d ?_ | refine z_n ?_ _ | refine z_a ?_ _ | refine z_s ?_ ?_ _ | refine z_t ?_ (by assumption)))); all_goals (simp <;> omega))⟩
  ·go_enter Tryz.func76, Tryz.ntmps76
   go_wp2_with (go_at_call 109; refine (may_any _ _ _).mono ?_; rintro e w1 ⟨rfl, hb1⟩; obtain ⟨hc1, hf1⟩ := hb1.cells; have hz1 := hb1.size; (repeat (first | rw [World.size_alloc] at hz1 | rw [World.size_drew] at hz1)); have z1_0 : w.heap.size < w1.heap.size := (by omega))
   all_goals go_ret
   all_goals exact ⟨by simp [rightB]; omega, (by (with_reducible (repeat' (first | exact z_r _ | assumption | refine z_d ?_ | refine z_n ?_ _ | refine z_a ?_ _ | refine z_s ?_ ?_ _ | refine z_t ?_ (by assumption)))); all_goals (simp <;> omega))⟩
 ·have hm' : mayB W H = false := by simpa using hm
  go_enter Tryz.func76, Tryz.ntmps76
  go_wp2_with (go_at_call 109; refine (may_any _ _ _).mono ?_; rintro e w1 ⟨rfl, hb1⟩; obtain ⟨hc1, hf1⟩ := hb1.cells; have hz1 := hb1.size; (repeat (first | rw [World.size_alloc] at hz1 | rw [World.size_drew] at hz1)); have z1_0 : w.heap.size < w1.heap.size := (by omega))
  all_goals go_ret
  all_goals exact ⟨by simp [rightB, hm'], (by (with_reducible (repeat' (first | exact z_r _ | assumption | refine z_d ?_ | refine z_n ?_ _ | refine z_a ?_ _ | refine z_s ?_ ?_ _ | refine z_t ?_ (by assumption)))); all_goals (simp <;> omega))⟩

def acr (n s : Int) : Int := (n + s - 1) / s

theorem across_any (W H s n : Int) (w : World) (h1 : 2 ≤ s) (h2 : s ≤ 16) (h3 : 0 ≤ n) (h4 : n ≤ 1000) :
  Calls Tryz.prog 77 #[.agg #[.int .i64 W, .int .i64 H, .int .i64 s], .int .i64 n] w fun e w' => e = .returned (.int .i64 (acr n s)) ∧ Ext w w' := by
 unfold acr
 go_enter Tryz.func77, Tryz.ntmps77
 go_wp2
 go_ret
 exact ⟨rfl, (by (with_reducible (repeat' (first | exact z_r _ | assumption | refine z_d ?_ | refine z_n ?_ _ | refine z_a ?_ _ | refine z_s ?_ ?_ _ | refine z_t ?_ (by assumption)))); all_goals (simp <;> omega))⟩

theorem acr_bd (n s : Int) (h1 : 2 ≤ s) (h2 : s ≤ 16) (h3 : 1 ≤ n) (h4 : n ≤ 256) : 1 ≤ acr n s ∧ acr n s ≤ 256 := by
 unfold acr
 constructor
 ·exact Int.le_ediv_of_mul_le (by omega) (by omega)
 ·exact Int.ediv_le_of_le_mul (by omega) (by have : 2 * 256 ≤ s * 256 := (by omega); omega)

def cnt (W H s : Int) : Int := acr W s * acr H s

theorem cnt_bd {W H s : Int} (hr : rightB W H s = true) : 1 ≤ cnt W H s ∧ cnt W H s ≤ 65536 := by
 obtain ⟨h1, h2, h3, h4, h5, h6⟩ := rightB_true.1 hr
 have b1 := acr_bd W s h5 h6 h1 h2
 have b2 := acr_bd H s h5 h6 h3 h4
 unfold cnt
 generalize acr W s = a at *
 generalize acr H s = b at *
 constructor
 ·have : 1 * 1 ≤ a * b := Int.mul_le_mul b1.1 b2.1 (by omega) (by omega)
  omega
 ·have : a * b ≤ 256 * 256 := Int.mul_le_mul b1.2 b2.2 (by omega) (by omega)
  omega

theorem count_yes (W H s : Int) (w : World) (hr : rightB W H s = true) :
  Calls Tryz.prog 31 #[.agg #[.int .i64 W, .int .i64 H, .int .i64 s]] w fun e w' => e = .returned (.int .i64 (cnt W H s)) ∧ Ext w w' := by
 obtain ⟨h1, h2, h3, h4, h5, h6⟩ := rightB_true.1 hr
 have b0 := cnt_bd hr
 unfold cnt at b0 ⊢
 have b1 : IntKind.i64.wrap (acr W s * acr H s) = acr W s * acr H s := IntWalk.i64_in _ (by omega)
 go_enter Tryz.func31, Tryz.ntmps31
 go_wp2_with (go_at_call 76; refine (right_any _ _ _ _).mono ?_; rintro e w1 ⟨rfl, hb1⟩; obtain ⟨hc1, hf1⟩ := hb1.cells; have hz1 := hb1.size; (repeat (first | rw [World.size_alloc] at hz1 | rw [World.size_drew] at hz1)); have z1_0 : w.heap.size < w1.heap.size := (by omega))
 go_region_held3 (fun W => (∀ b o, b < w1.heap.size → W.cell? ⟨b, o, none⟩ = w1.cell? ⟨b, o, none⟩) ∧ Ext w1 W) (first | with_reducible exact pr_start _ | exact pr_of (by (with_reducible (repeat' (first | exact z_r _ | assumption | refine z_d ?_ | refine z_n ?_ _ | refine z_a ?_ _ | refine z_s ?_ ?_ _ | refine z_t ?_ (by assumption)))); all_goals (simp <;> omega)))
  (first | (go_at_call 77; refine (across_any _ _ _ _ _ (by omega) (by omega) (by omega) (by omega)).mono ?_; rintro e w2 ⟨rfl, hb2⟩))
 go_wp2
 go_ret
 exact ⟨rfl, (by (with_reducible (repeat' (first | exact z_r _ | assumption | refine z_d ?_ | refine z_n ?_ _ | refine z_a ?_ _ | refine z_s ?_ ?_ _ | refine z_t ?_ (by assumption)))); all_goals (simp <;> omega))⟩

theorem count_no (W H s : Int) (w : World) (hr : rightB W H s = false) :
  Calls Tryz.prog 31 #[.agg #[.int .i64 W, .int .i64 H, .int .i64 s]] w fun e w' => e = .returned (.int .i64 0) ∧ Ext w w' := by
 go_enter Tryz.func31, Tryz.ntmps31
 go_wp2_with (go_at_call 76; refine (right_any _ _ _ _).mono ?_; rintro e w1 ⟨rfl, hb1⟩; obtain ⟨hc1, hf1⟩ := hb1.cells; have hz1 := hb1.size; (repeat (first | rw [World.size_alloc] at hz1 | rw [World.size_drew] at hz1)); have z1_0 : w.heap.size < w1.heap.size := (by omega))
 go_ret
 exact ⟨rfl, (by (with_reducible (repeat' (first | exact z_r _ | assumption | refine z_d ?_ | refine z_n ?_ _ | refine z_a ?_ _ | refine z_s ?_ ?_ _ | refine z_t ?_ (by assumption)))); all_goals (simp <;> omega))⟩

def ofN (W s x y : Int) : Int := y / s * acr W s + x / s

theorem of_yes (W H s x y : Int) (w : World) (hr : rightB W H s = true) (hi : inB W H x y = true) :
  Calls Tryz.prog 32 #[.agg #[.int .i64 W, .int .i64 H, .int .i64 s], .agg #[.int .i64 x, .int .i64 y]] w fun e w' => e = .returned (.tuple #[.int .i64 (ofN W s x y), .int .i64 0]) ∧ Ext w w' := by
 obtain ⟨h1, h2, h3, h4, h5, h6⟩ := rightB_true.1 hr
 obtain ⟨_, _, _, _, i1, i2, i3, i4⟩ := inB_true.1 hi
 have b1 := acr_bd W s h5 h6 h1 h2
 have b2 := div_bd (a := y) (s := s) (A := 256) i3 (by omega) (by omega)
 have b3 := div_bd (a := x) (s := s) (A := 256) i1 (by omega) (by omega)
 have b4 := mul_bd (a := y / s) (b := acr W s) (A := 256) (B := 256) b2.1 b2.2 (by omega) b1.2
 unfold ofN
 have k1 : IntKind.i64.wrap (y / s * acr W s) = y / s * acr W s := IntWalk.i64_in _ (by omega)
 have k2 : IntKind.i64.wrap (y / s * acr W s + x / s) = y / s * acr W s + x / s := IntWalk.i64_in _ (by omega)
 have k3 : IntKind.i64.wrap (y.tdiv s) = y / s := tdiv_in i3 (by omega) (by omega)
 have k4 : IntKind.i64.wrap (x.tdiv s) = x / s := tdiv_in i1 (by omega) (by omega)
 have hs0 : ¬ s = 0 := by omega
 go_enter Tryz.func32, Tryz.ntmps32
 go_wp2_with (first
  | (go_at_call 76; refine (right_any _ _ _ _).mono ?_; rintro e w1 ⟨rfl, hb1⟩; obtain ⟨hc1, hf1⟩ := hb1.cells; have hz1 := hb1.size; (repeat (first | rw [World.size_alloc] at hz1 | rw [World.size_drew] at hz1)); have z1_0 : w.heap.size < w1.heap.size := (by omega); have z1_1 : w.heap.size + 1 < w1.heap.size := (by omega))
  | (go_at_call 78; refine (in_any _ _ _ _ _).mono ?_; rintro e w2 ⟨rfl, hb2⟩; obtain ⟨hc2, hf2⟩ := hb2.cells; have hz2 := hb2.size; (repeat (first | rw [World.size_alloc] at hz2 | rw [World.size_drew] at hz2)); have z2_0 : w.heap.size < w2.heap.size := (by omega); have z2_1 : w.heap.size + 1 < w2.heap.size := (by omega)))
 go_region_held3 (fun W => (∀ b o, b < w2.heap.size → W.cell? ⟨b, o, none⟩ = w2.cell? ⟨b, o, none⟩) ∧ Ext w2 W) (first | with_reducible exact pr_start _ | exact pr_of (by (with_reducible (repeat' (first | exact z_r _ | assumption | refine z_d ?_ | refine z_n ?_ _ | refine z_a ?_ _ | refine z_s ?_ ?_ _ | refine z_t ?_ (by assumption)))); all_goals (simp <;> omega)))
  (first | (go_at_call 77; refine (across_any _ _ _ _ _ (by omega) (by omega) (by omega) (by omega)).mono ?_; rintro e w3 ⟨rfl, hb3⟩))
 all_goals go_wp2
 all_goals go_ret2
 all_goals exact ⟨rfl, (by (with_reducible (repeat' (first | exact z_r _ | assumption | refine z_d ?_ | refine z_n ?_ _ | refine z_a ?_ _ | refine z_s ?_ ?_ _ | refine z_t ?_ (by assumption)))); all_goals (simp <;> omega))⟩
theorem of_arg (W H s x y : Int) (w : World) (hr : rightB W H s = false) :
  Calls Tryz.prog 32 #[.agg #[.int .i64 W, .int .i64 H, .int .i64 s], .agg #[.int .i64 x, .int .i64 y]] w fun e w' => e = .returned (.tuple #[.int .i64 0, .int .i64 1]) ∧ Ext w w' := by
 go_enter Tryz.func32, Tryz.ntmps32
 go_wp2_with (first
  | (go_at_call 76; refine (right_any _ _ _ _).mono ?_; rintro e w1 ⟨rfl, hb1⟩; obtain ⟨hc1, hf1⟩ := hb1.cells; have hz1 := hb1.size; (repeat (first | rw [World.size_alloc] at hz1 | rw [World.size_drew] at hz1)); have z1_0 : w.heap.size < w1.heap.size := (by omega); have z1_1 : w.heap.size + 1 < w1.heap.size := (by omega)))
 go_ret2
 exact ⟨rfl, (by (with_reducible (repeat' (first | exact z_r _ | assumption | refine z_d ?_ | refine z_n ?_ _ | refine z_a ?_ _ | refine z_s ?_ ?_ _ | refine z_t ?_ (by assumption)))); all_goals (simp <;> omega))⟩
theorem of_range (W H s x y : Int) (w : World) (hr : rightB W H s = true) (hi : inB W H x y = false) :
  Calls Tryz.prog 32 #[.agg #[.int .i64 W, .int .i64 H, .int .i64 s], .agg #[.int .i64 x, .int .i64 y]] w fun e w' => e = .returned (.tuple #[.int .i64 0, .int .i64 10]) ∧ Ext w w' := by
 go_enter Tryz.func32, Tryz.ntmps32
 go_wp2_with (first
  | (go_at_call 76; refine (right_any _ _ _ _).mono ?_; rintro e w1 ⟨rfl, hb1⟩; obtain ⟨hc1, hf1⟩ := hb1.cells; have hz1 := hb1.size; (repeat (first | rw [World.size_alloc] at hz1 | rw [World.size_drew] at hz1)); have z1_0 : w.heap.size < w1.heap.size := (by omega); have z1_1 : w.heap.size + 1 < w1.heap.size := (by omega))
  | (go_at_call 78; refine (in_any _ _ _ _ _).mono ?_; rintro e w2 ⟨rfl, hb2⟩; obtain ⟨hc2, hf2⟩ := hb2.cells; have hz2 := hb2.size; (repeat (first | rw [World.size_alloc] at hz2 | rw [World.size_drew] at hz2)); have z2_0 : w.heap.size < w2.heap.size := (by omega); have z2_1 : w.heap.size + 1 < w2.heap.size := (by omega)))
 go_ret2
 exact ⟨rfl, (by (with_reducible (repeat' (first | exact z_r _ | assumption | refine z_d ?_ | refine z_n ?_ _ | refine z_a ?_ _ | refine z_s ?_ ?_ _ | refine z_t ?_ (by assumption)))); all_goals (simp <;> omega))⟩

def boxX (W s id : Int) : Int := id % acr W s * s
def boxY (W s id : Int) : Int := id / acr W s * s

theorem box_yes (W H s id : Int) (w : World) (hr : rightB W H s = true) (h0 : 0 ≤ id) (hid : id < cnt W H s) :
  Calls Tryz.prog 102 #[.agg #[.int .i64 W, .int .i64 H, .int .i64 s], .int .i64 id] w fun e w' =>
   e = .returned (.agg #[.int .i64 (boxX W s id), .int .i64 (boxY W s id), .int .i64 (min s (W - boxX W s id)), .int .i64 (min s (H - boxY W s id))]) ∧ Ext w w' := by
 obtain ⟨h1, h2, h3, h4, h5, h6⟩ := rightB_true.1 hr
 have b0 := cnt_bd hr
 have b1 := acr_bd W s h5 h6 h1 h2
 unfold boxX boxY
 have b2 := div_bd (a := id) (s := acr W s) (A := 65536) h0 (by omega) (by omega)
 have b3 : 0 ≤ id % acr W s ∧ id % acr W s ≤ 65536 := ⟨Int.emod_nonneg _ (by omega), Int.le_trans (emod_le h0 (by omega)) (by omega)⟩
 have b4 := mul_bd (a := id % acr W s) (b := s) (A := 65536) (B := 16) b3.1 b3.2 (by omega) (by omega)
 have b5 := mul_bd (a := id / acr W s) (b := s) (A := 65536) (B := 16) b2.1 b2.2 (by omega) (by omega)
 have k1 : IntKind.i64.wrap (id.tdiv (acr W s)) = id / acr W s := tdiv_in h0 (by omega) (by omega)
 have k2 : id.tmod (acr W s) = id % acr W s := tmod_in h0 (by omega) (by omega)
 have k3 : IntKind.i64.wrap (id / acr W s * s) = id / acr W s * s := IntWalk.i64_in _ (by omega)
 have k4 : IntKind.i64.wrap (id % acr W s * s) = id % acr W s * s := IntWalk.i64_in _ (by omega)
 have k5 : IntKind.i64.wrap (id % acr W s) = id % acr W s := IntWalk.i64_in _ (by omega)
 have hs0 : ¬ acr W s = 0 := by omega
 go_enter Tryz.func102, Tryz.ntmps102
 go_wp2_with (first
  | (go_at_call 77; refine (across_any _ _ _ _ _ (by omega) (by omega) (by omega) (by omega)).mono ?_; rintro e w1 ⟨rfl, hb1⟩; obtain ⟨hc1, hf1⟩ := hb1.cells; have hz1 := hb1.size; (repeat (first | rw [World.size_alloc] at hz1 | rw [World.size_drew] at hz1)); have z1_0 : w.heap.size < w1.heap.size := (by omega); have z1_1 : w.heap.size + 1 < w1.heap.size := (by omega)))
 go_region_held3 (fun W => (∀ b o, b < w1.heap.size → W.cell? ⟨b, o, none⟩ = w1.cell? ⟨b, o, none⟩) ∧ Ext w1 W) (first | with_reducible exact pr_start _ | exact pr_of (by (with_reducible (repeat' (first | exact z_r _ | assumption | refine z_d ?_ | refine z_n ?_ _ | refine z_a ?_ _ | refine z_s ?_ ?_ _ | refine z_t ?_ (by assumption)))); all_goals (simp <;> omega)))
  (fail)
 go_wp2
 all_goals
  refine bodyPost_ret (v := .agg #[.int .i64 (id % acr W s * s), .int .i64 (id / acr W s * s), .int .i64 (min s (W - id % acr W s * s)), .int .i64 (min s (H - id / acr W s * s))]) ?_ rfl ⟨rfl, (by (with_reducible (repeat' (first | exact z_r _ | assumption | refine z_d ?_ | refine z_n ?_ _ | refine z_a ?_ _ | refine z_s ?_ ?_ _ | refine z_t ?_ (by assumption)))); all_goals (simp <;> omega))⟩
  simp [results, Tryz.results102, go_sem, *]
  try omega

theorem rRight_any (W H s : Int) (w : World) :
  Calls Tryz.prog 61 #[.agg #[.int .i64 W, .int .i64 H], .int .i64 s] w fun e w' => e = .returned (.bool (rightB W H s)) ∧ Ext w w' := by
 go_enter Tryz.func61, Tryz.ntmps61
 go_wp2
 all_goals go_ret
 all_goals exact ⟨by simp [rightB, mayB, betw] <;> omega, (by (with_reducible (repeat' (first | exact z_r _ | assumption | refine z_d ?_ | refine z_n ?_ _ | refine z_a ?_ _ | refine z_s ?_ ?_ _ | refine z_t ?_ (by assumption)))); all_goals (simp <;> omega))⟩

def hasB (bx byy bw bh x y : Int) : Bool := decide (bx ≤ x) && decide (byy ≤ y) && decide (x - bx < bw) && decide (y - byy < bh)

theorem hasB_true {bx byy bw bh x y : Int} : hasB bx byy bw bh x y = true ↔ bx ≤ x ∧ x < bx + bw ∧ byy ≤ y ∧ y < byy + bh := by
 simp only [hasB, Bool.and_eq_true, decide_eq_true_eq]; omega

def InI (x : Int) : Prop := -9223372036854775808 ≤ x ∧ x ≤ 9223372036854775807

set_option maxHeartbeats 1000000 in
theorem rHas_any (bx byy bw bh x y : Int) (w : World) (h1 : 0 ≤ bx) (h2 : 0 ≤ byy) (hx : InI x) (hy : InI y) :
  Calls Tryz.prog 73 #[.agg #[.int .i64 bx, .int .i64 byy, .int .i64 bw, .int .i64 bh], .agg #[.int .i64 x, .int .i64 y]] w fun e w' => e = .returned (.bool (hasB bx byy bw bh x y)) ∧ Ext w w' := by
 unfold InI at hx hy
 go_enter Tryz.func73, Tryz.ntmps73
 go_wp2
 all_goals go_ret
 all_goals exact ⟨by simp [hasB] <;> omega, (by (with_reducible (repeat' (first | exact z_r _ | assumption | refine z_d ?_ | refine z_n ?_ _ | refine z_a ?_ _ | refine z_s ?_ ?_ _ | refine z_t ?_ (by assumption)))); all_goals (simp <;> omega))⟩

def fitsR (W H bx byy bw bh : Int) : Bool :=
 decide (0 ≤ bx) && decide (0 ≤ byy) && decide (1 ≤ bw) && decide (1 ≤ bh) && decide (bx < W) && decide (byy < H) && decide (bw ≤ W - bx) && decide (bh ≤ H - byy)

def stepX (x dir : Int) : Int := if dir = 1 then x + 1 else if dir = 3 then x - 1 else x
def stepY (y dir : Int) : Int := if dir = 0 then y - 1 else if dir = 2 then y + 1 else y

set_option maxHeartbeats 1000000 in
theorem rStep_any (x y dir : Int) (w : World) (hx : -4611686018427387904 ≤ x ∧ x ≤ 4611686018427387904) (hy : -4611686018427387904 ≤ y ∧ y ≤ 4611686018427387904) :
  Calls Tryz.prog 52 #[.agg #[.int .i64 x, .int .i64 y], .int .i64 dir] w fun e w' => e = .returned (.agg #[.int .i64 (stepX x dir), .int .i64 (stepY y dir)]) ∧ Ext w w' := by
 by_cases d0 : dir = 0
 ·subst d0
  go_enter Tryz.func52, Tryz.ntmps52
  go_wp2
  exact bodyPost_ret (v := .agg #[.int .i64 x, .int .i64 (y - 1)]) (by simp [results, Tryz.results52, go_sem, *]) rfl ⟨rfl, (by (with_reducible (repeat' (first | exact z_r _ | assumption | refine z_d ?_ | refine z_n ?_ _ | refine z_a ?_ _ | refine z_s ?_ ?_ _ | refine z_t ?_ (by assumption)))); all_goals (simp <;> omega))⟩
 ·by_cases d1 : dir = 1
  ·subst d1
   go_enter Tryz.func52, Tryz.ntmps52
   go_wp2
   exact bodyPost_ret (v := .agg #[.int .i64 (x + 1), .int .i64 y]) (by simp [results, Tryz.results52, go_sem, *]) rfl ⟨rfl, (by (with_reducible (repeat' (first | exact z_r _ | assumption | refine z_d ?_ | refine z_n ?_ _ | refine z_a ?_ _ | refine z_s ?_ ?_ _ | refine z_t ?_ (by assumption)))); all_goals (simp <;> omega))⟩
  ·by_cases d2 : dir = 2
   ·subst d2
    go_enter Tryz.func52, Tryz.ntmps52
    go_wp2
    exact bodyPost_ret (v := .agg #[.int .i64 x, .int .i64 (y + 1)]) (by simp [results, Tryz.results52, go_sem, *]) rfl ⟨rfl, (by (with_reducible (repeat' (first | exact z_r _ | assumption | refine z_d ?_ | refine z_n ?_ _ | refine z_a ?_ _ | refine z_s ?_ ?_ _ | refine z_t ?_ (by assumption)))); all_goals (simp <;> omega))⟩
   ·by_cases d3 : dir = 3
    ·subst d3
     go_enter Tryz.func52, Tryz.ntmps52
     go_wp2
     exact bodyPost_ret (v := .agg #[.int .i64 (x - 1), .int .i64 y]) (by simp [results, Tryz.results52, go_sem, *]) rfl ⟨rfl, (by (with_reducible (repeat' (first | exact z_r _ | assumption | refine z_d ?_ | refine z_n ?_ _ | refine z_a ?_ _ | refine z_s ?_ ?_ _ | refine z_t ?_ (by assumption)))); all_goals (simp <;> omega))⟩
    ·have e1 : stepX x dir = x := by unfold stepX; rw [if_neg d1, if_neg d3]
     have e2 : stepY y dir = y := by unfold stepY; rw [if_neg d0, if_neg d2]
     rw [e1, e2]
     clear e1 e2
     go_enter Tryz.func52, Tryz.ntmps52
     go_wp2
     exact bodyPost_ret (v := .agg #[.int .i64 x, .int .i64 y]) (by simp [results, Tryz.results52, go_sem, *]) rfl ⟨rfl, (by (with_reducible (repeat' (first | exact z_r _ | assumption | refine z_d ?_ | refine z_n ?_ _ | refine z_a ?_ _ | refine z_s ?_ ?_ _ | refine z_t ?_ (by assumption)))); all_goals (simp <;> omega))⟩

def smallB (W H s : Int) : Bool := rightB W H s && decide (W * H ≤ 400)
theorem smallB_true {W H s : Int} : smallB W H s = true ↔ rightB W H s = true ∧ W * H ≤ 400 := by simp [smallB]

def simpleB (x y : Int) : Bool := betw x (-1048576) 1048576 && betw y (-1048576) 1048576
theorem simple_any (x y : Int) (w : World) : Calls Tryz.prog 148 #[.agg #[.int .i64 x, .int .i64 y]] w fun e w' => e = .returned (.bool (simpleB x y)) ∧ Ext w w' := by
 go_enter Tryz.func148, Tryz.ntmps148
 go_wp2_with (go_at_call 123; refine (between_any _ _ _ _).mono ?_; rintro e w' ⟨rfl, rfl⟩)
 all_goals go_ret
 all_goals exact ⟨by simp [simpleB, *], (by (with_reducible (repeat' (first | exact z_r _ | assumption | refine z_d ?_ | refine z_n ?_ _ | refine z_a ?_ _ | refine z_s ?_ ?_ _ | refine z_t ?_ (by assumption)))); all_goals (simp <;> omega))⟩

def rightG (bx byy bw bh : Int) : Bool := betw bw 0 256 && betw bh 0 256 && simpleB bx byy
theorem rightG_true {bx byy bw bh : Int} : rightG bx byy bw bh = true ↔ 0 ≤ bw ∧ bw ≤ 256 ∧ 0 ≤ bh ∧ bh ≤ 256 ∧ -1048576 ≤ bx ∧ bx ≤ 1048576 ∧ -1048576 ≤ byy ∧ byy ≤ 1048576 := by
 simp only [rightG, simpleB, Bool.and_eq_true, betw_true]; omega

theorem gRight_any (bx byy bw bh : Int) (w : World) : Calls Tryz.prog 153 #[.agg #[.int .i64 bx, .int .i64 byy, .int .i64 bw, .int .i64 bh]] w fun e w' => e = .returned (.bool (rightG bx byy bw bh)) ∧ Ext w w' := by
 go_enter Tryz.func153, Tryz.ntmps153
 go_wp2_with (first
  | (go_at_call 123; refine (between_any _ _ _ _).mono ?_; rintro e w' ⟨rfl, rfl⟩)
  | (go_at_call 148; refine (simple_any _ _ _).mono ?_; rintro e w1 ⟨rfl, hb1⟩; obtain ⟨hc1, hf1⟩ := hb1.cells; have hz1 := hb1.size; (repeat (first | rw [World.size_alloc] at hz1 | rw [World.size_drew] at hz1)); have z1_0 : w.heap.size < w1.heap.size := (by omega)))
 all_goals go_ret
 all_goals exact ⟨by simp [rightG, *], (by (with_reducible (repeat' (first | exact z_r _ | assumption | refine z_d ?_ | refine z_n ?_ _ | refine z_a ?_ _ | refine z_s ?_ ?_ _ | refine z_t ?_ (by assumption)))); all_goals (simp <;> omega))⟩

def hasG (bx byy bw bh x y : Int) : Bool := rightG bx byy bw bh && betw x bx (bx + bw - 1) && betw y byy (byy + bh - 1)
theorem gHas_any (bx byy bw bh x y : Int) (w : World) : Calls Tryz.prog 104 #[.agg #[.int .i64 bx, .int .i64 byy, .int .i64 bw, .int .i64 bh], .agg #[.int .i64 x, .int .i64 y]] w fun e w' => e = .returned (.bool (hasG bx byy bw bh x y)) ∧ Ext w w' := by
 by_cases hr : rightG bx byy bw bh = true
 ·obtain ⟨h1, h2, h3, h4, h5, h6, h7, h8⟩ := rightG_true.1 hr
  go_enter Tryz.func104, Tryz.ntmps104
  go_wp2_with (first
   | (go_at_call 153; refine (gRight_any _ _ _ _ _).mono ?_; rintro e w1 ⟨rfl, hb1⟩; obtain ⟨hc1, hf1⟩ := hb1.cells; have hz1 := hb1.size; (repeat (first | rw [World.size_alloc] at hz1 | rw [World.size_drew] at hz1)); have z1_0 : w.heap.size < w1.heap.size := (by omega); have z1_1 : w.heap.size + 1 < w1.heap.size := (by omega))
   | (go_at_call 123; refine (between_any _ _ _ _).mono ?_; rintro e w' ⟨rfl, rfl⟩))
  all_goals go_ret
  all_goals exact ⟨by simp [hasG, *], (by (with_reducible (repeat' (first | exact z_r _ | assumption | refine z_d ?_ | refine z_n ?_ _ | refine z_a ?_ _ | refine z_s ?_ ?_ _ | refine z_t ?_ (by assumption)))); all_goals (simp <;> omega))⟩
 ·have hr' : rightG bx byy bw bh = false := by simpa using hr
  go_enter Tryz.func104, Tryz.ntmps104
  go_wp2_with (first
   | (go_at_call 153; refine (gRight_any _ _ _ _ _).mono ?_; rintro e w1 ⟨rfl, hb1⟩; obtain ⟨hc1, hf1⟩ := hb1.cells; have hz1 := hb1.size; (repeat (first | rw [World.size_alloc] at hz1 | rw [World.size_drew] at hz1)); have z1_0 : w.heap.size < w1.heap.size := (by omega); have z1_1 : w.heap.size + 1 < w1.heap.size := (by omega)))
  all_goals go_ret
  all_goals exact ⟨by simp [hasG, *], (by (with_reducible (repeat' (first | exact z_r _ | assumption | refine z_d ?_ | refine z_n ?_ _ | refine z_a ?_ _ | refine z_s ?_ ?_ _ | refine z_t ?_ (by assumption)))); all_goals (simp <;> omega))⟩

def fitsG (W H bx byy bw bh : Int) : Bool := rightG bx byy bw bh && decide (0 < bw) && decide (0 < bh) && inB W H bx byy && inB W H (bx + bw - 1) (byy + bh - 1)

theorem gFits_any (W H bx byy bw bh : Int) (w : World) : Calls Tryz.prog 152 #[.agg #[.int .i64 W, .int .i64 H], .agg #[.int .i64 bx, .int .i64 byy, .int .i64 bw, .int .i64 bh]] w fun e w' => e = .returned (.bool (fitsG W H bx byy bw bh)) ∧ Ext w w' := by
 have I1 := hide (fun w' => in_any W H bx byy w')
 have I2 := hide (fun w' => in_any W H (bx + bw - 1) (byy + bh - 1) w')
 cases hr : rightG bx byy bw bh
 ·have R1 := hide (fun w' => gRight_any bx byy bw bh w')
  rw [hr] at R1
  rw [show fitsG W H bx byy bw bh = false by simp [fitsG, hr]]
  clear hr
  go_enter Tryz.func152, Tryz.ntmps152
  go_wp2_with (go_at_call 153; refine (R1.out _).mono ?_; rintro e w1 ⟨rfl, hb1⟩)
  go_ret
  exact ⟨rfl, (by (with_reducible (repeat' (first | exact z_r _ | assumption | refine z_d ?_ | refine z_n ?_ _ | refine z_a ?_ _ | refine z_s ?_ ?_ _ | refine z_t ?_ (by assumption)))); all_goals (simp <;> omega))⟩
 ·obtain ⟨h1, h2, h3, h4, h5, h6, h7, h8⟩ := rightG_true.1 hr
  have R1 := hide (fun w' => gRight_any bx byy bw bh w')
  rw [hr] at R1
  have k1 : IntKind.i64.wrap (bx + bw) = bx + bw := IntWalk.i64_in _ (by omega)
  have k2 : IntKind.i64.wrap (bx + bw - 1) = bx + bw - 1 := IntWalk.i64_in _ (by omega)
  have k3 : IntKind.i64.wrap (byy + bh) = byy + bh := IntWalk.i64_in _ (by omega)
  have k4 : IntKind.i64.wrap (byy + bh - 1) = byy + bh - 1 := IntWalk.i64_in _ (by omega)
  unfold fitsG
  rw [hr]
  by_cases p1 : 0 < bw
  ·by_cases p2 : 0 < bh
   ·simp only [p1, p2, decide_true, Bool.true_and]
    generalize inB W H bx byy = b1 at *
    generalize inB W H (bx + bw - 1) (byy + bh - 1) = b2 at *
    clear hr h1 h2 h3 h4 h5 h6 h7 h8
    cases b1
    ·go_enter Tryz.func152, Tryz.ntmps152
     go_wp2_with (go_at_call 153; refine (R1.out _).mono ?_; rintro e w1 ⟨rfl, hb1⟩; obtain ⟨hc1, hf1⟩ := hb1.cells; have hz1 := hb1.size; (repeat (first | rw [World.size_alloc] at hz1 | rw [World.size_drew] at hz1)); have z1_0 : w.heap.size < w1.heap.size := (by omega); have z1_1 : w.heap.size + 1 < w1.heap.size := (by omega))
     refine (I1.out _).mono ?_
     rintro e w2 ⟨rfl, hb2⟩
     obtain ⟨hc2, hf2⟩ := hb2.cells; have hz2 := hb2.size; (repeat (first | rw [World.size_alloc] at hz2 | rw [World.size_drew] at hz2)); have z2_0 : w.heap.size < w2.heap.size := (by omega); have z2_1 : w.heap.size + 1 < w2.heap.size := (by omega)
     go_wp2_with fail
     go_ret
     exact ⟨rfl, (by (with_reducible (repeat' (first | exact z_r _ | assumption | refine z_d ?_ | refine z_n ?_ _ | refine z_a ?_ _ | refine z_s ?_ ?_ _ | refine z_t ?_ (by assumption)))); all_goals (simp <;> omega))⟩
    ·go_enter Tryz.func152, Tryz.ntmps152
     go_wp2_with (go_at_call 153; refine (R1.out _).mono ?_; rintro e w1 ⟨rfl, hb1⟩; obtain ⟨hc1, hf1⟩ := hb1.cells; have hz1 := hb1.size; (repeat (first | rw [World.size_alloc] at hz1 | rw [World.size_drew] at hz1)); have z1_0 : w.heap.size < w1.heap.size := (by omega); have z1_1 : w.heap.size + 1 < w1.heap.size := (by omega))
     refine (I1.out _).mono ?_
     rintro e w2 ⟨rfl, hb2⟩
     obtain ⟨hc2, hf2⟩ := hb2.cells; have hz2 := hb2.size; (repeat (first | rw [World.size_alloc] at hz2 | rw [World.size_drew] at hz2)); have z2_0 : w.heap.size < w2.heap.size := (by omega); have z2_1 : w.heap.size + 1 < w2.heap.size := (by omega)
     go_wp2_with fail
     refine (I2.out _).mono ?_
     rintro e w3 ⟨rfl, hb3⟩
     obtain ⟨hc3, hf3⟩ := hb3.cells; have hz3 := hb3.size; (repeat (first | rw [World.size_alloc] at hz3 | rw [World.size_drew] at hz3)); have z3_0 : w.heap.size < w3.heap.size := (by omega); have z3_1 : w.heap.size + 1 < w3.heap.size := (by omega)
     go_wp2_with fail
     go_ret
     exact ⟨by simp, (by (with_reducible (repeat' (first | exact z_r _ | assumption | refine z_d ?_ | refine z_n ?_ _ | refine z_a ?_ _ | refine z_s ?_ ?_ _ | refine z_t ?_ (by assumption)))); all_goals (simp <;> omega))⟩
   ·rw [show decide (0 < bh) = false by simpa using p2]
    simp only [Bool.and_false, Bool.false_and]
    go_enter Tryz.func152, Tryz.ntmps152
    go_wp2_with (go_at_call 153; refine (R1.out _).mono ?_; rintro e w1 ⟨rfl, hb1⟩; obtain ⟨hc1, hf1⟩ := hb1.cells; have hz1 := hb1.size; (repeat (first | rw [World.size_alloc] at hz1 | rw [World.size_drew] at hz1)); have z1_0 : w.heap.size < w1.heap.size := (by omega); have z1_1 : w.heap.size + 1 < w1.heap.size := (by omega))
    go_ret
    exact ⟨rfl, (by (with_reducible (repeat' (first | exact z_r _ | assumption | refine z_d ?_ | refine z_n ?_ _ | refine z_a ?_ _ | refine z_s ?_ ?_ _ | refine z_t ?_ (by assumption)))); all_goals (simp <;> omega))⟩
  ·rw [show decide (0 < bw) = false by simpa using p1]
   simp only [Bool.and_false, Bool.false_and]
   go_enter Tryz.func152, Tryz.ntmps152
   go_wp2_with (go_at_call 153; refine (R1.out _).mono ?_; rintro e w1 ⟨rfl, hb1⟩; obtain ⟨hc1, hf1⟩ := hb1.cells; have hz1 := hb1.size; (repeat (first | rw [World.size_alloc] at hz1 | rw [World.size_drew] at hz1)); have z1_0 : w.heap.size < w1.heap.size := (by omega); have z1_1 : w.heap.size + 1 < w1.heap.size := (by omega))
   go_ret
   exact ⟨rfl, (by (with_reducible (repeat' (first | exact z_r _ | assumption | refine z_d ?_ | refine z_n ?_ _ | refine z_a ?_ _ | refine z_s ?_ ?_ _ | refine z_t ?_ (by assumption)))); all_goals (simp <;> omega))⟩

theorem fitsG_eq {W H bx byy bw bh : Int} (hm : mayB W H = true) : fitsG W H bx byy bw bh = fitsR W H bx byy bw bh := by
 have := mayB_true.1 hm
 apply Bool.eq_iff_iff.2
 simp only [fitsG, fitsR, Bool.and_eq_true, decide_eq_true_eq, inB_true, rightG_true]
 omega

theorem fitsR_true {W H bx byy bw bh : Int} : fitsR W H bx byy bw bh = true ↔ 0 ≤ bx ∧ 0 ≤ byy ∧ 1 ≤ bw ∧ 1 ≤ bh ∧ bx + bw ≤ W ∧ byy + bh ≤ H := by
 simp only [fitsR, Bool.and_eq_true, decide_eq_true_eq]; omega

theorem hasG_eq {W H bx byy bw bh x y : Int} (hm : mayB W H = true) (hf : fitsR W H bx byy bw bh = true) : hasG bx byy bw bh x y = hasB bx byy bw bh x y := by
 have := mayB_true.1 hm
 have := fitsR_true.1 hf
 apply Bool.eq_iff_iff.2
 rw [hasB_true]
 simp only [hasG, Bool.and_eq_true, betw_true, rightG_true]
 omega
end Go.Proofs.YtkioohhjjdlhiaaGreat
