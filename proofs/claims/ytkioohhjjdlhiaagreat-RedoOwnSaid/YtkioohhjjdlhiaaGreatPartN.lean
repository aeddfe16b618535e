/- The walk of part's New. -/
import Derived.Test.YtkioohhjjdlhiaaGreatGeom
set_option linter.all false
set_option linter.unusedVariables false
set_option linter.unusedSimpArgs false
namespace Go.Proofs.YtkioohhjjdlhiaaGreat
open Go.RowKit

theorem new_yes (W H s : Int) (w : World) (hr : rightB W H s = true) :
  Calls Tryz.prog 56 #[.agg #[.int .i64 W, .int .i64 H], .int .i64 s] w fun e w' => e = .returned (.tuple #[.agg #[.int .i64 W, .int .i64 H, .int .i64 s], .int .i64 0]) ∧ Ext w w' := by
 go_enter Tryz.func56, Tryz.ntmps56
 go_wp2_with (first
  | (go_at_call 76; refine (right_any _ _ _ _).mono ?_; rintro e w1 ⟨rfl, hb1⟩; obtain ⟨hc1, hf1⟩ := hb1.cells; have hz1 := hb1.size; (repeat (first | rw [World.size_alloc] at hz1 | rw [World.size_drew] at hz1)); have z1_0 : w.heap.size < w1.heap.size := (by omega); have z1_1 : w.heap.size + 1 < w1.heap.size := (by omega); have z1_2 : w.heap.size + 2 < w1.heap.size := (by omega)))
 exact bodyPost_ret (v := .tuple #[.agg #[.int .i64 W, .int .i64 H, .int .i64 s], .int .i64 0]) (by simp [results, Tryz.results56, go_sem, *]) rfl ⟨rfl, (by (with_reducible (repeat' (first | exact z_r _ | assumption | refine z_d ?_ | refine z_n ?_ _ | refine z_a ?_ _ | refine z_s ?_ ?_ _ | refine z_t ?_ (by assumption)))); all_goals (simp <;> omega))⟩
theorem new_no (W H s : Int) (w : World) (hr : rightB W H s = false) :
  Calls Tryz.prog 56 #[.agg #[.int .i64 W, .int .i64 H], .int .i64 s] w fun e w' => e = .returned (.tuple #[.agg #[.int .i64 0, .int .i64 0, .int .i64 0], .int .i64 10]) ∧ Ext w w' := by
 go_enter Tryz.func56, Tryz.ntmps56
 go_wp2_with (first
  | (go_at_call 76; refine (right_any _ _ _ _).mono ?_; rintro e w1 ⟨rfl, hb1⟩; obtain ⟨hc1, hf1⟩ := hb1.cells; have hz1 := hb1.size; (repeat (first | rw [World.size_alloc] at hz1 | rw [World.size_drew] at hz1)); have z1_0 : w.heap.size < w1.heap.size := (by omega); have z1_1 : w.heap.size + 1 < w1.heap.size := (by omega); have z1_2 : w.heap.size + 2 < w1.heap.size := (by omega)))
 exact bodyPost_ret (v := .tuple #[.agg #[.int .i64 0, .int .i64 0, .int .i64 0], .int .i64 10]) (by simp [results, Tryz.results56, go_sem, *]) rfl ⟨rfl, (by (with_reducible (repeat' (first | exact z_r _ | assumption | refine z_d ?_ | refine z_n ?_ _ | refine z_a ?_ _ | refine z_s ?_ ?_ _ | refine z_t ?_ (by assumption)))); all_goals (simp <;> omega))⟩
end Go.Proofs.YtkioohhjjdlhiaaGreat
