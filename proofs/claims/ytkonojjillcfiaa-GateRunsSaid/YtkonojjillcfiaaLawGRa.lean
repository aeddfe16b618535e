/- GateRuns: what it does where there are no gates to walk along. -/
import Derived.Test.YtkonojjillcfiaaGateR
import Derived.Test.YtkonojjillcfiaaAwake12
import Derived.Test.YtkonojjillcfiaaArgF
namespace Go.Proofs.Ytkonojjillcfiaa
open Go.RowKit Go.ChangeShapes Go.WideShapes Go.ChangeAt

theorem Border_ends (W H s x y : Int) (w : World) : Calls Try.prog 24 #[.agg #[.int .i64 W, .int .i64 H, .int .i64 s], .int .i64 x, .int .i64 y] w fun e w' => ∃ v er, e = .returned (.tuple #[v, .int .i64 er]) ∧ Ext w w' := by
  cases ht : rightB W H s
  · have e1 : hasE W H s [x, y] = 1 := by simp [hasE, ht]
    refine (Border_err W H s x y w (by rw [e1]; rfl)).mono ?_
    rintro e w' ⟨rfl, h⟩
    exact ⟨_, _, rfl, h⟩
  · by_cases hx : 0 ≤ x ∧ x < cnt W H s
    · by_cases hy : 0 ≤ y ∧ y < cnt W H s
      · cases hne : hasI (besideL W H s (min x y)) (max x y)
        · refine (Border_arg W H s x y w ht hx.1 hx.2 hy.1 hy.2 hne).mono ?_
          rintro e w' ⟨rfl, h⟩
          exact ⟨_, _, rfl, h⟩
        · refine (Border_yes W H s x y w ht hx.1 hx.2 hy.1 hy.2 hne).mono ?_
          rintro e w' ⟨v, rfl, h, _⟩
          exact ⟨_, _, rfl, h⟩
      · refine (Border_range W H s x y w ht (.inr hy)).mono ?_
        rintro e w' ⟨rfl, h⟩
        exact ⟨_, _, rfl, h⟩
    · refine (Border_range W H s x y w ht (.inl hx)).mono ?_
      rintro e w' ⟨rfl, h⟩
      exact ⟨_, _, rfl, h⟩

set_option maxRecDepth 100000 in
theorem gr_far (W H : Int) (a : Option Addr) (n c : Nat) (pW pH s x y : Int) (w : World) (hn : ¬ (n : Int) ≤ 260) :
    Calls Try.prog 4 #[.agg #[.int .i64 W, .int .i64 H, .slice a n c], .agg #[.int .i64 pW, .int .i64 pH, .int .i64 s], .agg #[.int .i64 x, .int .i64 y]] w fun e w' => e = .returned (.bool true) ∧ Ext w w' := by
  have hd : decide ((n : Int) ≤ 260) = false := by simpa using hn
  clear hn
  go_enter Try.func4, Try.ntmps4
  go_wp2_with (first
    | (go_at_call 15; refine (small12_any _ _ _ _ _ _).mono ?_; rintro e w1 ⟨rfl, hb1⟩; rw [hd]; obtain ⟨hc1, hf1⟩ := hb1.cells; have hz1 := hb1.size; (repeat (first | rw [World.size_alloc] at hz1 | rw [World.size_drew] at hz1)); have z1_0 : w.heap.size < w1.heap.size := (by omega); have z1_1 : w.heap.size + 1 < w1.heap.size := (by omega); have z1_2 : w.heap.size + 1 + 1 < w1.heap.size := (by omega))
    | (go_at_call 16; refine (awake12_any _).mono ?_; rintro e w2 ⟨rfl, hb2⟩; obtain ⟨hc2, hf2⟩ := hb2.cells; have hz2 := hb2.size; (repeat (first | rw [World.size_alloc] at hz2 | rw [World.size_drew] at hz2))))
  go_ret
  exact ⟨rfl, (by (with_reducible (repeat' (first | exact Ext.refl _ | assumption | refine Ext.drew ?_ | refine Ext.drewN ?_ _ | refine Ext.alloc ?_ _ | refine Ext.setCell ?_ ?_ _ | refine Ext.trans ?_ (by assumption)))); all_goals (first | (simp; done) | (simp; omega)))⟩

set_option maxRecDepth 100000 in
theorem gr_chk (W H : Int) (a : Option Addr) (n c : Nat) (pW pH s x y : Int) (w : World) (hn : (n : Int) ≤ 260) (h0 : checkE W H n ≠ 0) :
    Calls Try.prog 4 #[.agg #[.int .i64 W, .int .i64 H, .slice a n c], .agg #[.int .i64 pW, .int .i64 pH, .int .i64 s], .agg #[.int .i64 x, .int .i64 y]] w fun e w' => e = .returned (.bool true) ∧ Ext w w' := by
  have hd : decide ((n : Int) ≤ 260) = true := by simpa using hn
  have q1 : (checkE W H n == 0) = false := by simpa using h0
  have q2 : (checkE W H n != 0) = true := by simpa using h0
  clear hn h0
  go_enter Try.func4, Try.ntmps4
  go_wp2_with (first
    | (go_at_call 15; refine (small12_any _ _ _ _ _ _).mono ?_; rintro e w1 ⟨rfl, hb1⟩; rw [hd]; obtain ⟨hc1, hf1⟩ := hb1.cells; have hz1 := hb1.size; (repeat (first | rw [World.size_alloc] at hz1 | rw [World.size_drew] at hz1)); have z1_0 : w.heap.size < w1.heap.size := (by omega); have z1_1 : w.heap.size + 1 < w1.heap.size := (by omega); have z1_2 : w.heap.size + 1 + 1 < w1.heap.size := (by omega))
    | (go_at_call 23; refine (r04Check_any _ _ _ _ _ _).mono ?_; rintro e w2 ⟨rfl, hb2⟩; obtain ⟨hc2, hf2⟩ := hb2.cells; have hz2 := hb2.size; (repeat (first | rw [World.size_alloc] at hz2 | rw [World.size_drew] at hz2)); have z2_0 : w.heap.size < w2.heap.size := (by omega); have z2_1 : w.heap.size + 1 < w2.heap.size := (by omega); have z2_2 : w.heap.size + 1 + 1 < w2.heap.size := (by omega))
    | (go_at_call 16; refine (awake12_any _).mono ?_; rintro e w3 ⟨rfl, hb3⟩; obtain ⟨hc3, hf3⟩ := hb3.cells; have hz3 := hb3.size; (repeat (first | rw [World.size_alloc] at hz3 | rw [World.size_drew] at hz3))))
  go_ret
  exact ⟨rfl, (by (with_reducible (repeat' (first | exact Ext.refl _ | assumption | refine Ext.drew ?_ | refine Ext.drewN ?_ _ | refine Ext.alloc ?_ _ | refine Ext.setCell ?_ ?_ _ | refine Ext.trans ?_ (by assumption)))); all_goals (first | (simp; done) | (simp; omega)))⟩

set_option maxRecDepth 100000 in
set_option maxHeartbeats 1000000 in
theorem gr_size (W H : Int) (a : Option Addr) (n c : Nat) (pW pH s x y : Int) (w : World) (hn : (n : Int) ≤ 260) (h0 : checkE W H n = 0) (he : ¬ (pW = W ∧ pH = H)) :
    Calls Try.prog 4 #[.agg #[.int .i64 W, .int .i64 H, .slice a n c], .agg #[.int .i64 pW, .int .i64 pH, .int .i64 s], .agg #[.int .i64 x, .int .i64 y]] w fun e w' => e = .returned (.bool true) ∧ Ext w w' := by
  have hd : decide ((n : Int) ≤ 260) = true := by simpa using hn
  have eg : gateE W H pW pH n = 1 := by simp only [gateE, h0, if_true, if_neg he]
  have HG := hide (fun w => by have h := gtBetween_chk W H a n c pW pH s x y w (by rw [eg]; rfl); rw [eg] at h; exact h)
  have H0 := hide h0
  have q : (pW == W && pH == H) = false := by simpa using he
  have hq := fun w => eq_size pW pH W H w
  clear hn h0 he eg
  go_enter Try.func4, Try.ntmps4
  go_wp2_with (first
    | (go_at_call 15; refine (small12_any _ _ _ _ _ _).mono ?_; rintro e w1 ⟨rfl, hb1⟩; rw [hd]; obtain ⟨hc1, hf1⟩ := hb1.cells; have hz1 := hb1.size; (repeat (first | rw [World.size_alloc] at hz1 | rw [World.size_drew] at hz1)); have z1_0 : w.heap.size < w1.heap.size := (by omega); have z1_1 : w.heap.size + 1 < w1.heap.size := (by omega); have z1_2 : w.heap.size + 1 + 1 < w1.heap.size := (by omega))
    | (go_at_call 23; refine (r04Check_any _ _ _ _ _ _).mono ?_; rintro e w2 ⟨rfl, hb2⟩; rw [H0.out]; obtain ⟨hc2, hf2⟩ := hb2.cells; have hz2 := hb2.size; (repeat (first | rw [World.size_alloc] at hz2 | rw [World.size_drew] at hz2)); have z2_0 : w.heap.size < w2.heap.size := (by omega); have z2_1 : w.heap.size + 1 < w2.heap.size := (by omega); have z2_2 : w.heap.size + 1 + 1 < w2.heap.size := (by omega))
    | (go_at_call 17; refine (HG.out _).mono ?_; rintro e w3 ⟨rfl, hb3⟩; obtain ⟨hc3, hf3⟩ := hb3.cells; have hz3 := hb3.size; (repeat (first | rw [World.size_alloc] at hz3 | rw [World.size_drew] at hz3)); have z3_0 : w.heap.size < w3.heap.size := (by omega); have z3_1 : w.heap.size + 1 < w3.heap.size := (by omega); have z3_2 : w.heap.size + 1 + 1 < w3.heap.size := (by omega))
    | (go_at_call 24; refine (Border_ends _ _ _ _ _ _).mono ?_; rintro e w4 ⟨v4, er4, rfl, hb4⟩; obtain ⟨hc4, hf4⟩ := hb4.cells; have hz4 := hb4.size; (repeat (first | rw [World.size_alloc] at hz4 | rw [World.size_drew] at hz4)); have z4_0 : w.heap.size < w4.heap.size := (by omega); have z4_1 : w.heap.size + 1 < w4.heap.size := (by omega); have z4_2 : w.heap.size + 1 + 1 < w4.heap.size := (by omega))
    | (go_at_call 16; refine (awake12_any _).mono ?_; rintro e w5 ⟨rfl, hb5⟩; obtain ⟨hc5, hf5⟩ := hb5.cells; have hz5 := hb5.size; (repeat (first | rw [World.size_alloc] at hz5 | rw [World.size_drew] at hz5))))
  go_ret
  exact ⟨rfl, (by (with_reducible (repeat' (first | exact Ext.refl _ | assumption | refine Ext.drew ?_ | refine Ext.drewN ?_ _ | refine Ext.alloc ?_ _ | refine Ext.setCell ?_ ?_ _ | refine Ext.trans ?_ (by assumption)))); all_goals (first | (simp; done) | (simp; omega)))⟩

set_option maxRecDepth 100000 in
set_option maxHeartbeats 1000000 in
theorem gr_err (W H : Int) (a : Option Addr) (n c : Nat) (s x y er : Int) (w : World) (hn : (n : Int) ≤ 260) (h0 : checkE W H n = 0) (he : er ≠ 0)
    (hB : ∀ w, Calls Try.prog 24 #[.agg #[.int .i64 W, .int .i64 H, .int .i64 s], .int .i64 x, .int .i64 y] w fun e w' => e = .returned (.tuple #[.slice none 0 0, .int .i64 er]) ∧ Ext w w') :
    Calls Try.prog 4 #[.agg #[.int .i64 W, .int .i64 H, .slice a n c], .agg #[.int .i64 W, .int .i64 H, .int .i64 s], .agg #[.int .i64 x, .int .i64 y]] w fun e w' => e = .returned (.bool true) ∧ Ext w w' := by
  have hd : decide ((n : Int) ≤ 260) = true := by simpa using hn
  have q2 : (er != 0) = true := by simpa using he
  have HG := hide (fun w => gtBetween_err W H a n c W H s x y er w (by simp [gateE, h0]) q2 hB)
  have H0 := hide h0
  have HB := hide hB
  have q : (W == W && H == H) = true := by simp
  have hq := fun w => eq_size W H W H w
  clear hn h0 he hB
  go_enter Try.func4, Try.ntmps4
  go_wp2_with (first
    | (go_at_call 15; refine (small12_any _ _ _ _ _ _).mono ?_; rintro e w1 ⟨rfl, hb1⟩; rw [hd]; obtain ⟨hc1, hf1⟩ := hb1.cells; have hz1 := hb1.size; (repeat (first | rw [World.size_alloc] at hz1 | rw [World.size_drew] at hz1)); have z1_0 : w.heap.size < w1.heap.size := (by omega); have z1_1 : w.heap.size + 1 < w1.heap.size := (by omega); have z1_2 : w.heap.size + 1 + 1 < w1.heap.size := (by omega))
    | (go_at_call 23; refine (r04Check_any _ _ _ _ _ _).mono ?_; rintro e w2 ⟨rfl, hb2⟩; rw [H0.out]; obtain ⟨hc2, hf2⟩ := hb2.cells; have hz2 := hb2.size; (repeat (first | rw [World.size_alloc] at hz2 | rw [World.size_drew] at hz2)); have z2_0 : w.heap.size < w2.heap.size := (by omega); have z2_1 : w.heap.size + 1 < w2.heap.size := (by omega); have z2_2 : w.heap.size + 1 + 1 < w2.heap.size := (by omega))
    | (go_at_call 17; refine (HG.out _).mono ?_; rintro e w3 ⟨rfl, hb3⟩; obtain ⟨hc3, hf3⟩ := hb3.cells; have hz3 := hb3.size; (repeat (first | rw [World.size_alloc] at hz3 | rw [World.size_drew] at hz3)); have z3_0 : w.heap.size < w3.heap.size := (by omega); have z3_1 : w.heap.size + 1 < w3.heap.size := (by omega); have z3_2 : w.heap.size + 1 + 1 < w3.heap.size := (by omega))
    | (go_at_call 24; refine (HB.out _).mono ?_; rintro e w4 ⟨rfl, hb4⟩; obtain ⟨hc4, hf4⟩ := hb4.cells; have hz4 := hb4.size; (repeat (first | rw [World.size_alloc] at hz4 | rw [World.size_drew] at hz4)); have z4_0 : w.heap.size < w4.heap.size := (by omega); have z4_1 : w.heap.size + 1 < w4.heap.size := (by omega); have z4_2 : w.heap.size + 1 + 1 < w4.heap.size := (by omega))
    | (go_at_call 16; refine (awake12_any _).mono ?_; rintro e w5 ⟨rfl, hb5⟩; obtain ⟨hc5, hf5⟩ := hb5.cells; have hz5 := hb5.size; (repeat (first | rw [World.size_alloc] at hz5 | rw [World.size_drew] at hz5))))
  go_ret
  exact ⟨rfl, (by (with_reducible (repeat' (first | exact Ext.refl _ | assumption | refine Ext.drew ?_ | refine Ext.drewN ?_ _ | refine Ext.alloc ?_ _ | refine Ext.setCell ?_ ?_ _ | refine Ext.trans ?_ (by assumption)))); all_goals (first | (simp; done) | (simp; omega)))⟩
end Go.Proofs.Ytkonojjillcfiaa
