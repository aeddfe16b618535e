/- The walk of the statement PartSides: the ways on which nothing is asked, and cells of one cluster. -/
import Derived.Test.YtgaeelojgoageaaPlawC
import Derived.Test.YtgaeelojgoageaaTimes
import Derived.Test.YtgaeelojgoageaaLawNew
import Derived.Test.YtgaeelojgoageaaArgs
namespace Go.Proofs.Ytgaeelojgoageaa
open Go.RowKit Go.ChangeShapes Go.WideShapes Go.ChangeAt

theorem smallB_false_or {W H s x y dir : Int} (h : ¬ (smallB W H s = true ∧ 0 ≤ x ∧ 0 ≤ y ∧ x < W ∧ y < H ∧ 0 ≤ dir ∧ dir ≤ 3)) :
    smallB W H s = false ∨ (smallB W H s = true ∧ x < 0) ∨ (smallB W H s = true ∧ 0 ≤ x ∧ y < 0) ∨ (smallB W H s = true ∧ 0 ≤ x ∧ 0 ≤ y ∧ W ≤ x) ∨ (smallB W H s = true ∧ 0 ≤ x ∧ 0 ≤ y ∧ x < W ∧ H ≤ y) ∨
    (smallB W H s = true ∧ 0 ≤ x ∧ 0 ≤ y ∧ x < W ∧ y < H ∧ dir < 0) ∨ (smallB W H s = true ∧ 0 ≤ x ∧ 0 ≤ y ∧ x < W ∧ y < H ∧ 0 ≤ dir ∧ 3 < dir) := by
  cases hs : smallB W H s
  · exact .inl rfl
  · simp only [hs, true_and, false_or, Bool.true_eq_false] at h ⊢
    omega

set_option maxRecDepth 1000000 in
set_option maxHeartbeats 4000000 in
theorem sides_no (W H s x y dir : Int) (w : World) (h : ¬ (smallB W H s = true ∧ 0 ≤ x ∧ 0 ≤ y ∧ x < W ∧ y < H ∧ 0 ≤ dir ∧ dir ≤ 3)) :
    Calls Try.prog 8 #[.agg #[.int .i64 W, .int .i64 H, .int .i64 s], .agg #[.int .i64 x, .int .i64 y], .int .i64 dir] w fun e w' => e = .returned (.bool true) ∧ Ext w w' := by
  rcases smallB_false_or h with hs | ⟨hs, g1⟩ | ⟨hs, g1, g2⟩ | ⟨hs, g1, g2, g3⟩ | ⟨hs, g1, g2, g3, g4⟩ | ⟨hs, g1, g2, g3, g4, g5⟩ | ⟨hs, g1, g2, g3, g4, g5, g6⟩
  all_goals
    clear h
    go_enter Try.func8, Try.ntmps8
    go_wp2_with (first
      | (go_at_call 26; refine (small11_any _ _ _ _).mono ?_; rintro e w1 ⟨rfl, hb1⟩; obtain ⟨hc1, hf1⟩ := hb1.cells; have hz1 := hb1.size; (repeat (first | rw [World.size_alloc] at hz1 | rw [World.size_drew] at hz1)); have z1_0 : w.heap.size < w1.heap.size := (by omega); have z1_1 : w.heap.size + 1 < w1.heap.size := (by omega))
      | (go_at_call 25; refine (awake11_any _).mono ?_; rintro e w2 ⟨rfl, hb2⟩; obtain ⟨hc2, hf2⟩ := hb2.cells; have hz2 := hb2.size; (repeat (first | rw [World.size_alloc] at hz2 | rw [World.size_drew] at hz2))))
    all_goals go_ret
    all_goals exact ⟨rfl, (by (with_reducible (repeat' (first | exact Ext.refl _ | assumption | refine Ext.drew ?_ | refine Ext.drewN ?_ _ | refine Ext.alloc ?_ _ | refine Ext.setCell ?_ ?_ _ | refine Ext.trans ?_ (by assumption)))); all_goals (first | (simp; done) | (simp; omega)))⟩

theorem step_in {W H x y : Int} (hi : inB W H x y = true) : (-4611686018427387904 ≤ x ∧ x ≤ 4611686018427387904) ∧ (-4611686018427387904 ≤ y ∧ y ≤ 4611686018427387904) := by
  obtain ⟨h1, h2, h3, h4, h5, h6, h7, h8⟩ := inB_true.1 hi
  omega

set_option maxRecDepth 1000000 in
set_option maxHeartbeats 4000000 in
theorem sides_off (W H s x y dir : Int) (w : World) (hs : smallB W H s = true) (hi : inB W H x y = true) (d1 : 0 ≤ dir) (d2 : dir ≤ 3) (hn : inB W H (stepX x dir) (stepY y dir) = false) :
    Calls Try.prog 8 #[.agg #[.int .i64 W, .int .i64 H, .int .i64 s], .agg #[.int .i64 x, .int .i64 y], .int .i64 dir] w fun e w' => e = .returned (.bool true) ∧ Ext w w' := by
  have hr := (smallB_true.1 hs).1
  obtain ⟨_, _, _, _, i1, i2, i3, i4⟩ := inB_true.1 hi
  have st := step_in hi
  have ST1 := hide st.1
  have ST2 := hide st.2
  clear st
  generalize hnx : stepX x dir = nx at *
  generalize hny : stepY y dir = ny at *
  have hstep : ∀ w, Calls Try.prog 35 #[.agg #[.int .i64 x, .int .i64 y], .int .i64 dir] w fun e w' => e = .returned (.agg #[.int .i64 nx, .int .i64 ny]) ∧ Ext w w' := fun w => by rw [← hnx, ← hny]; exact rStep_any x y dir w ST1.out ST2.out
  have HST := hide hstep
  clear hstep hnx hny
  go_enter Try.func8, Try.ntmps8
  go_wp2_with (first
    | (go_at_call 26; refine (small11_any _ _ _ _).mono ?_; rintro e w1 ⟨rfl, hb1⟩; obtain ⟨hc1, hf1⟩ := hb1.cells; have hz1 := hb1.size; (repeat (first | rw [World.size_alloc] at hz1 | rw [World.size_drew] at hz1)); have z1_0 : w.heap.size < w1.heap.size := (by omega); have z1_1 : w.heap.size + 1 < w1.heap.size := (by omega))
    | (go_at_call 35; refine (HST.out _).mono ?_; rintro e w2 ⟨rfl, hb2⟩; obtain ⟨hc2, hf2⟩ := hb2.cells; have hz2 := hb2.size; (repeat (first | rw [World.size_alloc] at hz2 | rw [World.size_drew] at hz2)); have z2_0 : w.heap.size < w2.heap.size := (by omega); have z2_1 : w.heap.size + 1 < w2.heap.size := (by omega))
    | (go_at_call_of 20 (Value.agg #[.int .i64 x, .int .i64 y]); refine (of_yes _ _ _ _ _ _ hr hi).mono ?_; rintro e w3 ⟨rfl, hb3⟩; obtain ⟨hc3, hf3⟩ := hb3.cells; have hz3 := hb3.size; (repeat (first | rw [World.size_alloc] at hz3 | rw [World.size_drew] at hz3)); have z3_0 : w.heap.size < w3.heap.size := (by omega); have z3_1 : w.heap.size + 1 < w3.heap.size := (by omega); have z3_2 : w2.heap.size < w3.heap.size := (by omega))
    | (go_at_call 20; refine (of_range _ _ _ _ _ _ hr hn).mono ?_; rintro e w4 ⟨rfl, hb4⟩; obtain ⟨hc4, hf4⟩ := hb4.cells; have hz4 := hb4.size; (repeat (first | rw [World.size_alloc] at hz4 | rw [World.size_drew] at hz4)); have z4_0 : w.heap.size < w4.heap.size := (by omega); have z4_1 : w.heap.size + 1 < w4.heap.size := (by omega); have z4_2 : w2.heap.size < w4.heap.size := (by omega))
    | (go_at_call 25; refine (awake11_any _).mono ?_; rintro e w5 ⟨rfl, hb5⟩; obtain ⟨hc5, hf5⟩ := hb5.cells; have hz5 := hb5.size; (repeat (first | rw [World.size_alloc] at hz5 | rw [World.size_drew] at hz5))))
  go_ret
  exact ⟨rfl, (by (with_reducible (repeat' (first | exact Ext.refl _ | assumption | refine Ext.drew ?_ | refine Ext.drewN ?_ _ | refine Ext.alloc ?_ _ | refine Ext.setCell ?_ ?_ _ | refine Ext.trans ?_ (by assumption)))); all_goals (first | (simp; done) | (simp; omega)))⟩

theorem border_self {W H s a : Int} (w : World) (hr : rightB W H s = true) (h0 : 0 ≤ a) (ha : a < cnt W H s) :
    Calls Try.prog 23 #[.agg #[.int .i64 W, .int .i64 H, .int .i64 s], .int .i64 a, .int .i64 a] w fun e w' => e = .returned (.tuple #[.slice none 0 0, .int .i64 1]) ∧ Ext w w' := by
  refine Border_arg W H s a a w hr h0 ha h0 ha ?_
  rw [show min a a = a by omega, show max a a = a by omega]
  exact beside_self hr

set_option maxRecDepth 1000000 in
set_option maxHeartbeats 4000000 in
theorem sides_same (W H s x y dir : Int) (w : World) (hs : smallB W H s = true) (hi : inB W H x y = true) (d1 : 0 ≤ dir) (d2 : dir ≤ 3) (hn : inB W H (stepX x dir) (stepY y dir) = true) (he : ofN W s (stepX x dir) (stepY y dir) = ofN W s x y) :
    Calls Try.prog 8 #[.agg #[.int .i64 W, .int .i64 H, .int .i64 s], .agg #[.int .i64 x, .int .i64 y], .int .i64 dir] w fun e w' => e = .returned (.bool true) ∧ Ext w w' := by
  have hr := (smallB_true.1 hs).1
  obtain ⟨_, _, _, _, i1, i2, i3, i4⟩ := inB_true.1 hi
  have st := step_in hi
  have ST1 := hide st.1
  have ST2 := hide st.2
  clear st
  have ob := ofN_bd hr hi
  generalize hnx : stepX x dir = nx at *
  generalize hny : stepY y dir = ny at *
  have hstep : ∀ w, Calls Try.prog 35 #[.agg #[.int .i64 x, .int .i64 y], .int .i64 dir] w fun e w' => e = .returned (.agg #[.int .i64 nx, .int .i64 ny]) ∧ Ext w w' := fun w => by rw [← hnx, ← hny]; exact rStep_any x y dir w ST1.out ST2.out
  have hofn : ∀ w, Calls Try.prog 20 #[.agg #[.int .i64 W, .int .i64 H, .int .i64 s], .agg #[.int .i64 nx, .int .i64 ny]] w fun e w' => e = .returned (.tuple #[.int .i64 (ofN W s x y), .int .i64 0]) ∧ Ext w w' := fun w => by rw [← he]; exact of_yes _ _ _ _ _ w hr hn
  have hofc : ∀ w, Calls Try.prog 20 #[.agg #[.int .i64 W, .int .i64 H, .int .i64 s], .agg #[.int .i64 x, .int .i64 y]] w fun e w' => e = .returned (.tuple #[.int .i64 (ofN W s x y), .int .i64 0]) ∧ Ext w w' := fun w => of_yes _ _ _ _ _ w hr hi
  have HST := hide hstep
  have HON := hide hofn
  have HOC := hide hofc
  clear hstep hofn hofc hnx hny he
  generalize ofN W s x y = a at *
  go_enter Try.func8, Try.ntmps8
  go_wp2_with (first
    | (go_at_call 26; refine (small11_any _ _ _ _).mono ?_; rintro e w1 ⟨rfl, hb1⟩; obtain ⟨hc1, hf1⟩ := hb1.cells; have hz1 := hb1.size; (repeat (first | rw [World.size_alloc] at hz1 | rw [World.size_drew] at hz1)); have z1_0 : w.heap.size < w1.heap.size := (by omega); have z1_1 : w.heap.size + 1 < w1.heap.size := (by omega))
    | (go_at_call 35; refine (HST.out _).mono ?_; rintro e w2 ⟨rfl, hb2⟩; obtain ⟨hc2, hf2⟩ := hb2.cells; have hz2 := hb2.size; (repeat (first | rw [World.size_alloc] at hz2 | rw [World.size_drew] at hz2)); have z2_0 : w.heap.size < w2.heap.size := (by omega); have z2_1 : w.heap.size + 1 < w2.heap.size := (by omega))
    | (go_at_call_of 20 (Value.agg #[.int .i64 x, .int .i64 y]); refine (HOC.out _).mono ?_; rintro e w3 ⟨rfl, hb3⟩; obtain ⟨hc3, hf3⟩ := hb3.cells; have hz3 := hb3.size; (repeat (first | rw [World.size_alloc] at hz3 | rw [World.size_drew] at hz3)); have z3_0 : w.heap.size < w3.heap.size := (by omega); have z3_1 : w.heap.size + 1 < w3.heap.size := (by omega); have z3_2 : w2.heap.size < w3.heap.size := (by omega))
    | (go_at_call 20; refine (HON.out _).mono ?_; rintro e w4 ⟨rfl, hb4⟩; obtain ⟨hc4, hf4⟩ := hb4.cells; have hz4 := hb4.size; (repeat (first | rw [World.size_alloc] at hz4 | rw [World.size_drew] at hz4)); have z4_0 : w.heap.size < w4.heap.size := (by omega); have z4_1 : w.heap.size + 1 < w4.heap.size := (by omega); have z4_2 : w2.heap.size < w4.heap.size := (by omega))
    | (go_at_call 23; refine (border_self _ hr ob.1 ob.2).mono ?_; rintro e w5 ⟨rfl, hb5⟩; obtain ⟨hc5, hf5⟩ := hb5.cells; have hz5 := hb5.size; (repeat (first | rw [World.size_alloc] at hz5 | rw [World.size_drew] at hz5)); have z5_0 : w.heap.size < w5.heap.size := (by omega); have z5_1 : w.heap.size + 1 < w5.heap.size := (by omega); have z5_2 : w2.heap.size < w5.heap.size := (by omega))
    | (go_at_call 25; refine (awake11_any _).mono ?_; rintro e w6 ⟨rfl, hb6⟩; obtain ⟨hc6, hf6⟩ := hb6.cells; have hz6 := hb6.size; (repeat (first | rw [World.size_alloc] at hz6 | rw [World.size_drew] at hz6))))
  all_goals go_ret
  all_goals exact ⟨rfl, (by (with_reducible (repeat' (first | exact Ext.refl _ | assumption | refine Ext.drew ?_ | refine Ext.drewN ?_ _ | refine Ext.alloc ?_ _ | refine Ext.setCell ?_ ?_ _ | refine Ext.trans ?_ (by assumption)))); all_goals (first | (simp; done) | (simp; omega)))⟩
end Go.Proofs.Ytgaeelojgoageaa
