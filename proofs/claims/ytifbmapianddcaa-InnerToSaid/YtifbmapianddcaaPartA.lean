/- Walks of part's plain functions: right, across, Count, Of, New, box. -/
import Derived.Test.YtifbmapianddcaaGeom
namespace Go.Proofs.Ytifbmapianddcaa
open Go.RowKit

def rightB (W H s : Int) : Bool := mayB W H && decide (2 ≤ s) && decide (s ≤ 16)

theorem rightB_true {W H s : Int} : rightB W H s = true ↔ 1 ≤ W ∧ W ≤ 256 ∧ 1 ≤ H ∧ H ≤ 256 ∧ 2 ≤ s ∧ s ≤ 16 := by
  simp only [rightB, Bool.and_eq_true, mayB_true, decide_eq_true_eq]; omega

theorem right_any (W H s : Int) (w : World) :
    Calls Try.prog 139 #[.agg #[.int .i64 W, .int .i64 H, .int .i64 s]] w fun e w' => e = .returned (.bool (rightB W H s)) ∧ Ext w w' := by
  by_cases hm : mayB W H = true
  · by_cases hs : 2 ≤ s
    · go_enter Try.func139, Try.ntmps139
      go_wp2_with (go_at_call 110; refine (may_any _ _ _).mono ?_; rintro e w1 ⟨rfl, hb1⟩; obtain ⟨hc1, hf1⟩ := hb1.cells; have hz1 := hb1.size; (repeat (first | rw [World.size_alloc] at hz1 | rw [World.size_drew] at hz1)); have z1_0 : w.heap.size < w1.heap.size := (by omega))
      all_goals go_ret
      all_goals exact ⟨by simp [rightB, *], (by (with_reducible (repeat' (first | exact Ext.refl _ | assumption | refine Ext.drew ?_ | refine Ext.drewN ?_ _ | refine Ext.alloc ?_ _ | refine Ext.setCell ?_ ?_ _ | refine Ext.trans ?_ (by assumption)))); all_goals (first | (simp; done) | (simp; omega)))⟩
    · go_enter Try.func139, Try.ntmps139
      go_wp2_with (go_at_call 110; refine (may_any _ _ _).mono ?_; rintro e w1 ⟨rfl, hb1⟩; obtain ⟨hc1, hf1⟩ := hb1.cells; have hz1 := hb1.size; (repeat (first | rw [World.size_alloc] at hz1 | rw [World.size_drew] at hz1)); have z1_0 : w.heap.size < w1.heap.size := (by omega))
      all_goals go_ret
      all_goals exact ⟨by simp [rightB]; omega, (by (with_reducible (repeat' (first | exact Ext.refl _ | assumption | refine Ext.drew ?_ | refine Ext.drewN ?_ _ | refine Ext.alloc ?_ _ | refine Ext.setCell ?_ ?_ _ | refine Ext.trans ?_ (by assumption)))); all_goals (first | (simp; done) | (simp; omega)))⟩
  · have hm' : mayB W H = false := by simpa using hm
    go_enter Try.func139, Try.ntmps139
    go_wp2_with (go_at_call 110; refine (may_any _ _ _).mono ?_; rintro e w1 ⟨rfl, hb1⟩; obtain ⟨hc1, hf1⟩ := hb1.cells; have hz1 := hb1.size; (repeat (first | rw [World.size_alloc] at hz1 | rw [World.size_drew] at hz1)); have z1_0 : w.heap.size < w1.heap.size := (by omega))
    all_goals go_ret
    all_goals exact ⟨by simp [rightB, hm'], (by (with_reducible (repeat' (first | exact Ext.refl _ | assumption | refine Ext.drew ?_ | refine Ext.drewN ?_ _ | refine Ext.alloc ?_ _ | refine Ext.setCell ?_ ?_ _ | refine Ext.trans ?_ (by assumption)))); all_goals (first | (simp; done) | (simp; omega)))⟩

def acr (n s : Int) : Int := (n + s - 1) / s

theorem across_any (W H s n : Int) (w : World) (h1 : 2 ≤ s) (h2 : s ≤ 16) (h3 : 0 ≤ n) (h4 : n ≤ 1000) :
    Calls Try.prog 140 #[.agg #[.int .i64 W, .int .i64 H, .int .i64 s], .int .i64 n] w fun e w' => e = .returned (.int .i64 (acr n s)) ∧ Ext w w' := by
  unfold acr
  go_enter Try.func140, Try.ntmps140
  go_wp2
  go_ret
  exact ⟨rfl, (by (with_reducible (repeat' (first | exact Ext.refl _ | assumption | refine Ext.drew ?_ | refine Ext.drewN ?_ _ | refine Ext.alloc ?_ _ | refine Ext.setCell ?_ ?_ _ | refine Ext.trans ?_ (by assumption)))); all_goals (first | (simp; done) | (simp; omega)))⟩

theorem acr_bd (n s : Int) (h1 : 2 ≤ s) (h2 : s ≤ 16) (h3 : 1 ≤ n) (h4 : n ≤ 256) : 1 ≤ acr n s ∧ acr n s ≤ 256 := by
  unfold acr
  constructor
  · exact Int.le_ediv_of_mul_le (by omega) (by omega)
  · exact Int.ediv_le_of_le_mul (by omega) (by have : 2 * 256 ≤ s * 256 := by omega
                                               omega)

def cnt (W H s : Int) : Int := acr W s * acr H s

theorem cnt_bd {W H s : Int} (hr : rightB W H s = true) : 1 ≤ cnt W H s ∧ cnt W H s ≤ 65536 := by
  obtain ⟨h1, h2, h3, h4, h5, h6⟩ := rightB_true.1 hr
  have b1 := acr_bd W s h5 h6 h1 h2
  have b2 := acr_bd H s h5 h6 h3 h4
  unfold cnt
  generalize acr W s = a at *
  generalize acr H s = b at *
  constructor
  · have : 1 * 1 ≤ a * b := Int.mul_le_mul b1.1 b2.1 (by omega) (by omega)
    omega
  · have : a * b ≤ 256 * 256 := Int.mul_le_mul b1.2 b2.2 (by omega) (by omega)
    omega

theorem count_yes (W H s : Int) (w : World) (hr : rightB W H s = true) :
    Calls Try.prog 99 #[.agg #[.int .i64 W, .int .i64 H, .int .i64 s]] w fun e w' => e = .returned (.int .i64 (cnt W H s)) ∧ Ext w w' := by
  obtain ⟨h1, h2, h3, h4, h5, h6⟩ := rightB_true.1 hr
  have b0 := cnt_bd hr
  unfold cnt at b0 ⊢
  have b1 : IntKind.i64.wrap (acr W s * acr H s) = acr W s * acr H s := IntWalk.i64_in _ (by omega)
  go_enter Try.func99, Try.ntmps99
  go_wp2_with (go_at_call 139; refine (right_any _ _ _ _).mono ?_; rintro e w1 ⟨rfl, hb1⟩; obtain ⟨hc1, hf1⟩ := hb1.cells; have hz1 := hb1.size; (repeat (first | rw [World.size_alloc] at hz1 | rw [World.size_drew] at hz1)); have z1_0 : w.heap.size < w1.heap.size := (by omega))
  go_region_held3 (fun W => (∀ b o, b < w1.heap.size → W.cell? ⟨b, o, none⟩ = w1.cell? ⟨b, o, none⟩) ∧ Ext w1 W) (first | with_reducible exact pr_start _ | exact pr_of (by (with_reducible (repeat' (first | exact Ext.refl _ | assumption | refine Ext.drew ?_ | refine Ext.drewN ?_ _ | refine Ext.alloc ?_ _ | refine Ext.setCell ?_ ?_ _ | refine Ext.trans ?_ (by assumption)))); all_goals (first | (simp; done) | (simp; omega))))
    (first | (go_at_call 140; refine (across_any _ _ _ _ _ (by omega) (by omega) (by omega) (by omega)).mono ?_; rintro e w2 ⟨rfl, hb2⟩))
  go_wp2
  go_ret
  exact ⟨rfl, (by (with_reducible (repeat' (first | exact Ext.refl _ | assumption | refine Ext.drew ?_ | refine Ext.drewN ?_ _ | refine Ext.alloc ?_ _ | refine Ext.setCell ?_ ?_ _ | refine Ext.trans ?_ (by assumption)))); all_goals (first | (simp; done) | (simp; omega)))⟩

theorem count_no (W H s : Int) (w : World) (hr : rightB W H s = false) :
    Calls Try.prog 99 #[.agg #[.int .i64 W, .int .i64 H, .int .i64 s]] w fun e w' => e = .returned (.int .i64 0) ∧ Ext w w' := by
  go_enter Try.func99, Try.ntmps99
  go_wp2_with (go_at_call 139; refine (right_any _ _ _ _).mono ?_; rintro e w1 ⟨rfl, hb1⟩; obtain ⟨hc1, hf1⟩ := hb1.cells; have hz1 := hb1.size; (repeat (first | rw [World.size_alloc] at hz1 | rw [World.size_drew] at hz1)); have z1_0 : w.heap.size < w1.heap.size := (by omega))
  go_ret
  exact ⟨rfl, (by (with_reducible (repeat' (first | exact Ext.refl _ | assumption | refine Ext.drew ?_ | refine Ext.drewN ?_ _ | refine Ext.alloc ?_ _ | refine Ext.setCell ?_ ?_ _ | refine Ext.trans ?_ (by assumption)))); all_goals (first | (simp; done) | (simp; omega)))⟩

def ofN (W s x y : Int) : Int := y / s * acr W s + x / s

theorem of_yes (W H s x y : Int) (w : World) (hr : rightB W H s = true) (hi : inB W H x y = true) :
    Calls Try.prog 103 #[.agg #[.int .i64 W, .int .i64 H, .int .i64 s], .agg #[.int .i64 x, .int .i64 y]] w fun e w' => e = .returned (.tuple #[.int .i64 (ofN W s x y), .int .i64 0]) ∧ Ext w w' := by
  obtain ⟨h1, h2, h3, h4, h5, h6⟩ := rightB_true.1 hr
  obtain ⟨_, _, _, _, i1, i2, i3, i4⟩ := inB_true.1 hi
  have b1 := acr_bd W s h5 h6 h1 h2
  have b2 := div_bd (a := y) (s := s) (A := 256) i3 (by omega) (by omega)
  have b3 := div_bd (a := x) (s := s) (A := 256) i1 (by omega) (by omega)
  have b4 := mul_bd (a := y / s) (b := acr W s) (A := 256) (B := 256) b2.1 b2.2 (by omega) b1.2
  unfold ofN
  have k1 : IntKind.i64.wrap (y / s * acr W s) = y / s * acr W s := IntWalk.i64_in _ (by omega)
  have k2 : IntKind.i64.wrap (y / s * acr W s + x / s) = y / s * acr W s + x / s := IntWalk.i64_in _ (by omega)
  have k3 : IntKind.i64.wrap (y.tdiv s) = y / s := tdiv_in i3 (by omega) (by omega)
  have k4 : IntKind.i64.wrap (x.tdiv s) = x / s := tdiv_in i1 (by omega) (by omega)
  have hs0 : ¬ s = 0 := by omega
  go_enter Try.func103, Try.ntmps103
  go_wp2_with (first
   | (go_at_call 139; refine (right_any _ _ _ _).mono ?_; rintro e w1 ⟨rfl, hb1⟩; obtain ⟨hc1, hf1⟩ := hb1.cells; have hz1 := hb1.size; (repeat (first | rw [World.size_alloc] at hz1 | rw [World.size_drew] at hz1)); have z1_0 : w.heap.size < w1.heap.size := (by omega); have z1_1 : w.heap.size + 1 < w1.heap.size := (by omega))
   | (go_at_call 66; refine (in_any _ _ _ _ _).mono ?_; rintro e w2 ⟨rfl, hb2⟩; obtain ⟨hc2, hf2⟩ := hb2.cells; have hz2 := hb2.size; (repeat (first | rw [World.size_alloc] at hz2 | rw [World.size_drew] at hz2)); have z2_0 : w.heap.size < w2.heap.size := (by omega); have z2_1 : w.heap.size + 1 < w2.heap.size := (by omega)))
  go_region_held3 (fun W => (∀ b o, b < w2.heap.size → W.cell? ⟨b, o, none⟩ = w2.cell? ⟨b, o, none⟩) ∧ Ext w2 W) (first | with_reducible exact pr_start _ | exact pr_of (by (with_reducible (repeat' (first | exact Ext.refl _ | assumption | refine Ext.drew ?_ | refine Ext.drewN ?_ _ | refine Ext.alloc ?_ _ | refine Ext.setCell ?_ ?_ _ | refine Ext.trans ?_ (by assumption)))); all_goals (first | (simp; done) | (simp; omega))))
    (first | (go_at_call 140; refine (across_any _ _ _ _ _ (by omega) (by omega) (by omega) (by omega)).mono ?_; rintro e w3 ⟨rfl, hb3⟩))
  all_goals go_wp2
  all_goals go_ret2
  all_goals exact ⟨rfl, (by (with_reducible (repeat' (first | exact Ext.refl _ | assumption | refine Ext.drew ?_ | refine Ext.drewN ?_ _ | refine Ext.alloc ?_ _ | refine Ext.setCell ?_ ?_ _ | refine Ext.trans ?_ (by assumption)))); all_goals (first | (simp; done) | (simp; omega)))⟩
theorem of_arg (W H s x y : Int) (w : World) (hr : rightB W H s = false) :
    Calls Try.prog 103 #[.agg #[.int .i64 W, .int .i64 H, .int .i64 s], .agg #[.int .i64 x, .int .i64 y]] w fun e w' => e = .returned (.tuple #[.int .i64 0, .int .i64 1]) ∧ Ext w w' := by
  go_enter Try.func103, Try.ntmps103
  go_wp2_with (first
   | (go_at_call 139; refine (right_any _ _ _ _).mono ?_; rintro e w1 ⟨rfl, hb1⟩; obtain ⟨hc1, hf1⟩ := hb1.cells; have hz1 := hb1.size; (repeat (first | rw [World.size_alloc] at hz1 | rw [World.size_drew] at hz1)); have z1_0 : w.heap.size < w1.heap.size := (by omega); have z1_1 : w.heap.size + 1 < w1.heap.size := (by omega)))
  go_ret2
  exact ⟨rfl, (by (with_reducible (repeat' (first | exact Ext.refl _ | assumption | refine Ext.drew ?_ | refine Ext.drewN ?_ _ | refine Ext.alloc ?_ _ | refine Ext.setCell ?_ ?_ _ | refine Ext.trans ?_ (by assumption)))); all_goals (first | (simp; done) | (simp; omega)))⟩
theorem of_range (W H s x y : Int) (w : World) (hr : rightB W H s = true) (hi : inB W H x y = false) :
    Calls Try.prog 103 #[.agg #[.int .i64 W, .int .i64 H, .int .i64 s], .agg #[.int .i64 x, .int .i64 y]] w fun e w' => e = .returned (.tuple #[.int .i64 0, .int .i64 10]) ∧ Ext w w' := by
  go_enter Try.func103, Try.ntmps103
  go_wp2_with (first
   | (go_at_call 139; refine (right_any _ _ _ _).mono ?_; rintro e w1 ⟨rfl, hb1⟩; obtain ⟨hc1, hf1⟩ := hb1.cells; have hz1 := hb1.size; (repeat (first | rw [World.size_alloc] at hz1 | rw [World.size_drew] at hz1)); have z1_0 : w.heap.size < w1.heap.size := (by omega); have z1_1 : w.heap.size + 1 < w1.heap.size := (by omega))
   | (go_at_call 66; refine (in_any _ _ _ _ _).mono ?_; rintro e w2 ⟨rfl, hb2⟩; obtain ⟨hc2, hf2⟩ := hb2.cells; have hz2 := hb2.size; (repeat (first | rw [World.size_alloc] at hz2 | rw [World.size_drew] at hz2)); have z2_0 : w.heap.size < w2.heap.size := (by omega); have z2_1 : w.heap.size + 1 < w2.heap.size := (by omega)))
  go_ret2
  exact ⟨rfl, (by (with_reducible (repeat' (first | exact Ext.refl _ | assumption | refine Ext.drew ?_ | refine Ext.drewN ?_ _ | refine Ext.alloc ?_ _ | refine Ext.setCell ?_ ?_ _ | refine Ext.trans ?_ (by assumption)))); all_goals (first | (simp; done) | (simp; omega)))⟩

def boxX (W s id : Int) : Int := id % acr W s * s
def boxY (W s id : Int) : Int := id / acr W s * s

theorem box_yes (W H s id : Int) (w : World) (hr : rightB W H s = true) (h0 : 0 ≤ id) (hid : id < cnt W H s) :
    Calls Try.prog 145 #[.agg #[.int .i64 W, .int .i64 H, .int .i64 s], .int .i64 id] w fun e w' =>
      e = .returned (.agg #[.int .i64 (boxX W s id), .int .i64 (boxY W s id), .int .i64 (min s (W - boxX W s id)), .int .i64 (min s (H - boxY W s id))]) ∧ Ext w w' := by
  obtain ⟨h1, h2, h3, h4, h5, h6⟩ := rightB_true.1 hr
  have b0 := cnt_bd hr
  have b1 := acr_bd W s h5 h6 h1 h2
  unfold boxX boxY
  have b2 := div_bd (a := id) (s := acr W s) (A := 65536) h0 (by omega) (by omega)
  have b3 : 0 ≤ id % acr W s ∧ id % acr W s ≤ 65536 := ⟨Int.emod_nonneg _ (by omega), Int.le_trans (emod_le h0 (by omega)) (by omega)⟩
  have b4 := mul_bd (a := id % acr W s) (b := s) (A := 65536) (B := 16) b3.1 b3.2 (by omega) (by omega)
  have b5 := mul_bd (a := id / acr W s) (b := s) (A := 65536) (B := 16) b2.1 b2.2 (by omega) (by omega)
  have k1 : IntKind.i64.wrap (id.tdiv (acr W s)) = id / acr W s := tdiv_in h0 (by omega) (by omega)
  have k2 : id.tmod (acr W s) = id % acr W s := tmod_in h0 (by omega) (by omega)
  have k3 : IntKind.i64.wrap (id / acr W s * s) = id / acr W s * s := IntWalk.i64_in _ (by omega)
  have k4 : IntKind.i64.wrap (id % acr W s * s) = id % acr W s * s := IntWalk.i64_in _ (by omega)
  have k5 : IntKind.i64.wrap (id % acr W s) = id % acr W s := IntWalk.i64_in _ (by omega)
  have hs0 : ¬ acr W s = 0 := by omega
  go_enter Try.func145, Try.ntmps145
  go_wp2_with (first
   | (go_at_call 140; refine (across_any _ _ _ _ _ (by omega) (by omega) (by omega) (by omega)).mono ?_; rintro e w1 ⟨rfl, hb1⟩; obtain ⟨hc1, hf1⟩ := hb1.cells; have hz1 := hb1.size; (repeat (first | rw [World.size_alloc] at hz1 | rw [World.size_drew] at hz1)); have z1_0 : w.heap.size < w1.heap.size := (by omega); have z1_1 : w.heap.size + 1 < w1.heap.size := (by omega)))
  go_region_held3 (fun W => (∀ b o, b < w1.heap.size → W.cell? ⟨b, o, none⟩ = w1.cell? ⟨b, o, none⟩) ∧ Ext w1 W) (first | with_reducible exact pr_start _ | exact pr_of (by (with_reducible (repeat' (first | exact Ext.refl _ | assumption | refine Ext.drew ?_ | refine Ext.drewN ?_ _ | refine Ext.alloc ?_ _ | refine Ext.setCell ?_ ?_ _ | refine Ext.trans ?_ (by assumption)))); all_goals (first | (simp; done) | (simp; omega))))
    (fail)
  go_wp2
  all_goals
    refine bodyPost_ret (v := .agg #[.int .i64 (id % acr W s * s), .int .i64 (id / acr W s * s), .int .i64 (min s (W - id % acr W s * s)), .int .i64 (min s (H - id / acr W s * s))]) ?_ rfl ⟨rfl, (by (with_reducible (repeat' (first | exact Ext.refl _ | assumption | refine Ext.drew ?_ | refine Ext.drewN ?_ _ | refine Ext.alloc ?_ _ | refine Ext.setCell ?_ ?_ _ | refine Ext.trans ?_ (by assumption)))); all_goals (first | (simp; done) | (simp; omega)))⟩
    simp [results, Try.results145, go_sem, *]
    try omega
end Go.Proofs.Ytifbmapianddcaa
