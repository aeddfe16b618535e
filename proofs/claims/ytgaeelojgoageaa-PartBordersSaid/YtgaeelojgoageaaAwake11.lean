/- The walk of part's awake: the chapter's examples hold. -/
import Derived.Test.YtgaeelojgoageaaPartF
import Derived.Test.YtgaeelojgoageaaRefB
namespace Go.Proofs.Ytgaeelojgoageaa
open Go.RowKit

theorem aw_of (w : World) : Calls Try.prog 20 #[.agg #[.int .i64 5, .int .i64 3, .int .i64 2], .agg #[.int .i64 4, .int .i64 2]] w fun e w' => e = .returned (.tuple #[.int .i64 5, .int .i64 0]) ∧ Ext w w' :=
  of_yes 5 3 2 4 2 w rfl rfl
theorem aw_box (w : World) : Calls Try.prog 21 #[.agg #[.int .i64 5, .int .i64 3, .int .i64 2], .int .i64 5] w fun e w' => e = .returned (.tuple #[.agg #[.int .i64 4, .int .i64 2, .int .i64 1, .int .i64 1], .int .i64 0]) ∧ Ext w w' :=
  Box_yes 5 3 2 5 w rfl (by decide) (by decide)
theorem aw_beside (w : World) : Calls Try.prog 22 #[.agg #[.int .i64 5, .int .i64 3, .int .i64 2], .int .i64 1] w (RetInts w [2, 4, 0] 0) :=
  Beside_yes 5 3 2 1 w rfl (by decide) (by decide)
theorem aw_border (w : World) : Calls Try.prog 23 #[.agg #[.int .i64 5, .int .i64 3, .int .i64 2], .int .i64 0, .int .i64 1] w (RetPairs w [((1, 0), (2, 0)), ((1, 1), (2, 1))] 0) :=
  Border_yes 5 3 2 0 1 w rfl (by decide) (by decide) (by decide) (by decide) (by decide)
theorem aw_count (w : World) : Calls Try.prog 24 #[.agg #[.int .i64 5, .int .i64 3, .int .i64 2]] w fun e w' => e = .returned (.int .i64 6) ∧ Ext w w' :=
  count_yes 5 3 2 w rfl

set_option maxHeartbeats 1000000 in
theorem awake11_any (w : World) : Calls Try.prog 25 #[] w fun e w' => e = .returned (.bool true) ∧ Ext w w' := by
  go_enter Try.func25, Try.ntmps25
  go_wp2_with (first
    | (go_at_call 18; refine (new_yes 5 3 2 _ rfl).mono ?_; rintro e w1 ⟨rfl, hb1⟩; obtain ⟨hc1, hf1⟩ := hb1.cells; have hz1 := hb1.size; (repeat (first | rw [World.size_alloc] at hz1 | rw [World.size_drew] at hz1)))
    | (go_at_call 20; refine (aw_of _).mono ?_; rintro e w2 ⟨rfl, hb2⟩; obtain ⟨hc2, hf2⟩ := hb2.cells; have hz2 := hb2.size; (repeat (first | rw [World.size_alloc] at hz2 | rw [World.size_drew] at hz2)); have z2_0 : w1.heap.size < w2.heap.size := (by omega))
    | (go_at_call 21; refine (aw_box _).mono ?_; rintro e w3 ⟨rfl, hb3⟩; obtain ⟨hc3, hf3⟩ := hb3.cells; have hz3 := hb3.size; (repeat (first | rw [World.size_alloc] at hz3 | rw [World.size_drew] at hz3)); have z3_0 : w1.heap.size < w3.heap.size := (by omega))
    | (go_at_call 22; refine (aw_beside _).mono ?_; rintro e w4 ⟨v4, rfl, hb4, hv4⟩; obtain ⟨hc4, hf4⟩ := hb4.cells; have hz4 := hb4.size; (repeat (first | rw [World.size_alloc] at hz4 | rw [World.size_drew] at hz4)); have z4_0 : w1.heap.size < w4.heap.size := (by omega); have z4_1 : w3.heap.size < w4.heap.size := (by omega))
    | (go_at_call 23; refine (aw_border _).mono ?_; rintro e w5 ⟨v5, rfl, hb5, hv5⟩; obtain ⟨hc5, hf5⟩ := hb5.cells; have hz5 := hb5.size; (repeat (first | rw [World.size_alloc] at hz5 | rw [World.size_drew] at hz5)); have z5_0 : w1.heap.size < w5.heap.size := (by omega); have z5_1 : w3.heap.size < w5.heap.size := (by omega))
    | (go_at_call 24; refine (aw_count _).mono ?_; rintro e w6 ⟨rfl, hb6⟩; obtain ⟨hc6, hf6⟩ := hb6.cells; have hz6 := hb6.size; (repeat (first | rw [World.size_alloc] at hz6 | rw [World.size_drew] at hz6)); have z6_0 : w1.heap.size < w6.heap.size := (by omega); have z6_1 : w3.heap.size < w6.heap.size := (by omega)))
  have r4 := ((hv4.reads.ext hb5).ext hb6).ext ((Ext.refl w6).alloc (.cells #[.int .i64 2, .int .i64 4, .int .i64 0] 3))
  refine (ints11_any _ _ [2, 4, 0] [2, 4, 0] _ (by simp) (by simp) r4 (reads_lit intE w6 _ _ [2, 4, 0] rfl _ _ _ rfl rfl)).mono ?_
  rintro e w7 ⟨rfl, hb7⟩
  have r5 := (hv5.reads.ext hb6).ext (((Ext.refl w6).alloc (.cells #[.int .i64 2, .int .i64 4, .int .i64 0] 3)).trans hb7)
  clear hv4 hv5 r4
  go_wp2_with fail
  refine (pairs11_any _ _ [((1, 0), (2, 0)), ((1, 1), (2, 1))] [((1, 0), (2, 0)), ((1, 1), (2, 1))] _ (by simp) (by simp) (r5.ext ((Ext.refl w7).alloc _)) (reads_lit pairE w7 _ _ [((1, 0), (2, 0)), ((1, 1), (2, 1))] rfl _ _ _ rfl rfl)).mono ?_
  rintro e w8 ⟨rfl, hb8⟩
  clear r5
  go_wp2_with fail
  go_ret
  exact ⟨rfl, (by (with_reducible (repeat' (first | exact Ext.refl _ | assumption | refine Ext.drew ?_ | refine Ext.drewN ?_ _ | refine Ext.alloc ?_ _ | refine Ext.setCell ?_ ?_ _ | refine Ext.trans ?_ (by assumption)))); all_goals (first | (simp; done) | (simp; omega)))⟩
end Go.Proofs.Ytgaeelojgoageaa
