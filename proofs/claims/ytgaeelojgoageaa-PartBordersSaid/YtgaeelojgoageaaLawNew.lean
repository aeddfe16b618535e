/- The walk of the statement PartNew: it answers true, and the memory that was there stays. -/
import Derived.Test.YtgaeelojgoageaaAwake11
import Derived.Test.YtgaeelojgoageaaRefA
namespace Go.Proofs.Ytgaeelojgoageaa
open Go.RowKit

theorem hasE_arg {W H s : Int} (hr : rightB W H s = false) (l : List Int) : hasE W H s l = 1 := by simp [hasE, hr]

theorem Box_arg (W H s id : Int) (w : World) (hr : rightB W H s = false) :
    Calls Try.prog 21 #[.agg #[.int .i64 W, .int .i64 H, .int .i64 s], .int .i64 id] w fun e w' => e = .returned (.tuple #[.agg #[.int .i64 0, .int .i64 0, .int .i64 0, .int .i64 0], .int .i64 1]) ∧ Ext w w' := by
  have h := Box_no W H s id w (by rw [hasE_arg hr]; rfl)
  rwa [hasE_arg hr] at h
theorem Beside_arg (W H s id : Int) (w : World) (hr : rightB W H s = false) :
    Calls Try.prog 22 #[.agg #[.int .i64 W, .int .i64 H, .int .i64 s], .int .i64 id] w fun e w' => e = .returned (.tuple #[.slice none 0 0, .int .i64 1]) ∧ Ext w w' := by
  have h := Beside_no W H s id w (by rw [hasE_arg hr]; rfl)
  rwa [hasE_arg hr] at h
theorem Border_argp (W H s a b : Int) (w : World) (hr : rightB W H s = false) :
    Calls Try.prog 23 #[.agg #[.int .i64 W, .int .i64 H, .int .i64 s], .int .i64 a, .int .i64 b] w fun e w' => e = .returned (.tuple #[.slice none 0 0, .int .i64 1]) ∧ Ext w w' := by
  have h := Border_err W H s a b w (by rw [hasE_arg hr]; rfl)
  rwa [hasE_arg hr] at h

set_option maxRecDepth 100000 in
set_option maxHeartbeats 2000000 in
theorem partNew_no (W H s id x y : Int) (w : World) (hr : rightB W H s = false) :
    Calls Try.prog 4 #[.agg #[.int .i64 W, .int .i64 H, .int .i64 s], .int .i64 id, .agg #[.int .i64 x, .int .i64 y]] w fun e w' => e = .returned (.bool true) ∧ Ext w w' := by
  go_enter Try.func4, Try.ntmps4
  go_wp2_with (first
    | (go_at_call 18; refine (new_no _ _ _ _ hr).mono ?_; rintro e w1 ⟨rfl, hb1⟩; obtain ⟨hc1, hf1⟩ := hb1.cells; have hz1 := hb1.size; (repeat (first | rw [World.size_alloc] at hz1 | rw [World.size_drew] at hz1)); have z1_0 : w.heap.size < w1.heap.size := (by omega); have z1_1 : w.heap.size + 1 < w1.heap.size := (by omega))
    | (go_at_call 19; refine (rRight_any _ _ _ _).mono ?_; rintro e w2 ⟨rfl, hb2⟩; obtain ⟨hc2, hf2⟩ := hb2.cells; have hz2 := hb2.size; (repeat (first | rw [World.size_alloc] at hz2 | rw [World.size_drew] at hz2)); have z2_0 : w.heap.size < w2.heap.size := (by omega); have z2_1 : w.heap.size + 1 < w2.heap.size := (by omega); have z2_2 : w1.heap.size < w2.heap.size := (by omega))
    | (go_at_call 20; refine (of_arg _ _ _ _ _ _ hr).mono ?_; rintro e w3 ⟨rfl, hb3⟩; obtain ⟨hc3, hf3⟩ := hb3.cells; have hz3 := hb3.size; (repeat (first | rw [World.size_alloc] at hz3 | rw [World.size_drew] at hz3)); have z3_0 : w.heap.size < w3.heap.size := (by omega); have z3_1 : w.heap.size + 1 < w3.heap.size := (by omega); have z3_2 : w1.heap.size < w3.heap.size := (by omega))
    | (go_at_call 21; refine (Box_arg _ _ _ _ _ hr).mono ?_; rintro e w4 ⟨rfl, hb4⟩; obtain ⟨hc4, hf4⟩ := hb4.cells; have hz4 := hb4.size; (repeat (first | rw [World.size_alloc] at hz4 | rw [World.size_drew] at hz4)); have z4_0 : w.heap.size < w4.heap.size := (by omega); have z4_1 : w.heap.size + 1 < w4.heap.size := (by omega); have z4_2 : w1.heap.size < w4.heap.size := (by omega))
    | (go_at_call 22; refine (Beside_arg _ _ _ _ _ hr).mono ?_; rintro e w5 ⟨rfl, hb5⟩; obtain ⟨hc5, hf5⟩ := hb5.cells; have hz5 := hb5.size; (repeat (first | rw [World.size_alloc] at hz5 | rw [World.size_drew] at hz5)); have z5_0 : w.heap.size < w5.heap.size := (by omega); have z5_1 : w.heap.size + 1 < w5.heap.size := (by omega); have z5_2 : w1.heap.size < w5.heap.size := (by omega); have z5_3 : w4.heap.size < w5.heap.size := (by omega))
    | (go_at_call 23; refine (Border_argp _ _ _ _ _ _ hr).mono ?_; rintro e w6 ⟨rfl, hb6⟩; obtain ⟨hc6, hf6⟩ := hb6.cells; have hz6 := hb6.size; (repeat (first | rw [World.size_alloc] at hz6 | rw [World.size_drew] at hz6)); have z6_0 : w.heap.size < w6.heap.size := (by omega); have z6_1 : w.heap.size + 1 < w6.heap.size := (by omega); have z6_2 : w1.heap.size < w6.heap.size := (by omega); have z6_3 : w4.heap.size < w6.heap.size := (by omega))
    | (go_at_call 24; refine (count_no _ _ _ _ hr).mono ?_; rintro e w7 ⟨rfl, hb7⟩; obtain ⟨hc7, hf7⟩ := hb7.cells; have hz7 := hb7.size; (repeat (first | rw [World.size_alloc] at hz7 | rw [World.size_drew] at hz7)); have z7_0 : w.heap.size < w7.heap.size := (by omega); have z7_1 : w.heap.size + 1 < w7.heap.size := (by omega); have z7_2 : w1.heap.size < w7.heap.size := (by omega); have z7_3 : w4.heap.size < w7.heap.size := (by omega))
    | (go_at_call 25; refine (awake11_any _).mono ?_; rintro e w8 ⟨rfl, hb8⟩; obtain ⟨hc8, hf8⟩ := hb8.cells; have hz8 := hb8.size; (repeat (first | rw [World.size_alloc] at hz8 | rw [World.size_drew] at hz8))))
  go_ret
  exact ⟨rfl, (by (with_reducible (repeat' (first | exact Ext.refl _ | assumption | refine Ext.drew ?_ | refine Ext.drewN ?_ _ | refine Ext.alloc ?_ _ | refine Ext.setCell ?_ ?_ _ | refine Ext.trans ?_ (by assumption)))); all_goals (first | (simp; done) | (simp; omega)))⟩

set_option maxRecDepth 100000 in
set_option maxHeartbeats 2000000 in
theorem partNew_yes (W H s id x y : Int) (w : World) (hr : rightB W H s = true) :
    Calls Try.prog 4 #[.agg #[.int .i64 W, .int .i64 H, .int .i64 s], .int .i64 id, .agg #[.int .i64 x, .int .i64 y]] w fun e w' => e = .returned (.bool true) ∧ Ext w w' := by
  obtain ⟨h1, h2, h3, h4, h5, h6⟩ := rightB_true.1 hr
  have b0 := cnt_bd hr
  have hcnt : cnt W H s = (W + s - 1) / s * ((H + s - 1) / s) := rfl
  have k1 : IntKind.i64.wrap ((W + s - 1) / s * ((H + s - 1) / s)) = cnt W H s := by rw [← hcnt]; exact IntWalk.i64_in _ (by omega)
  clear hcnt
  go_enter Try.func4, Try.ntmps4
  go_wp2_with (first
    | (go_at_call 18; refine (new_yes _ _ _ _ hr).mono ?_; rintro e w1 ⟨rfl, hb1⟩; obtain ⟨hc1, hf1⟩ := hb1.cells; have hz1 := hb1.size; (repeat (first | rw [World.size_alloc] at hz1 | rw [World.size_drew] at hz1)); have z1_0 : w.heap.size < w1.heap.size := (by omega); have z1_1 : w.heap.size + 1 < w1.heap.size := (by omega))
    | (go_at_call 19; refine (rRight_any _ _ _ _).mono ?_; rintro e w2 ⟨rfl, hb2⟩; obtain ⟨hc2, hf2⟩ := hb2.cells; have hz2 := hb2.size; (repeat (first | rw [World.size_alloc] at hz2 | rw [World.size_drew] at hz2)); have z2_0 : w.heap.size < w2.heap.size := (by omega); have z2_1 : w.heap.size + 1 < w2.heap.size := (by omega); have z2_2 : w1.heap.size < w2.heap.size := (by omega))
    | (go_at_call 24; refine (count_yes _ _ _ _ hr).mono ?_; rintro e w7 ⟨rfl, hb7⟩; obtain ⟨hc7, hf7⟩ := hb7.cells; have hz7 := hb7.size; (repeat (first | rw [World.size_alloc] at hz7 | rw [World.size_drew] at hz7)); have z7_0 : w.heap.size < w7.heap.size := (by omega); have z7_1 : w.heap.size + 1 < w7.heap.size := (by omega); have z7_2 : w1.heap.size < w7.heap.size := (by omega))
    | (go_at_call 25; refine (awake11_any _).mono ?_; rintro e w8 ⟨rfl, hb8⟩; obtain ⟨hc8, hf8⟩ := hb8.cells; have hz8 := hb8.size; (repeat (first | rw [World.size_alloc] at hz8 | rw [World.size_drew] at hz8))))
  go_ret
  exact ⟨rfl, (by (with_reducible (repeat' (first | exact Ext.refl _ | assumption | refine Ext.drew ?_ | refine Ext.drewN ?_ _ | refine Ext.alloc ?_ _ | refine Ext.setCell ?_ ?_ _ | refine Ext.trans ?_ (by assumption)))); all_goals (first | (simp; done) | (simp; omega)))⟩
end Go.Proofs.Ytgaeelojgoageaa
