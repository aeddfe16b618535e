/- PartBoxes: for every map of up to 400 cells that may be cut so, every number and cell, the law returns true and leaves its arguments as they were. No condition. -/
import Derived.Test.YtgaeelojgoageaaPlawA
import Derived.Test.YtgaeelojgoageaaLawNew
import Derived.Test.YtgaeelojgoageaaArgs
namespace Go.Proofs.Ytgaeelojgoageaa
open Go.RowKit Go.ChangeShapes Go.WideShapes Go.ChangeAt

theorem hasE_range {W H s id : Int} (hr : rightB W H s = true) (h : ¬ (0 ≤ id ∧ id < cnt W H s)) : hasE W H s [id] = 10 := by
  have : bad W H s id = true := by
    cases hb : bad W H s id
    · exact absurd (bad_false_iff.1 hb) h
    · rfl
  simp [hasE, hr, this]
theorem Box_range (W H s id : Int) (w : World) (hr : rightB W H s = true) (h : ¬ (0 ≤ id ∧ id < cnt W H s)) :
    Calls Try.prog 21 #[.agg #[.int .i64 W, .int .i64 H, .int .i64 s], .int .i64 id] w fun e w' => e = .returned (.tuple #[.agg #[.int .i64 0, .int .i64 0, .int .i64 0, .int .i64 0], .int .i64 10]) ∧ Ext w w' := by
  have h' := Box_no W H s id w (by rw [hasE_range hr h]; rfl)
  rwa [hasE_range hr h] at h'

theorem boxes_no (W H s id x y : Int) (w : World) (hs : smallB W H s = false) :
    Calls Try.prog 5 #[.agg #[.int .i64 W, .int .i64 H, .int .i64 s], .int .i64 id, .agg #[.int .i64 x, .int .i64 y]] w fun e w' => e = .returned (.bool true) ∧ Ext w w' := by
  go_enter Try.func5, Try.ntmps5
  go_wp2_with (first
    | (go_at_call 26; refine (small11_any _ _ _ _).mono ?_; rintro e w1 ⟨rfl, hb1⟩; obtain ⟨hc1, hf1⟩ := hb1.cells; have hz1 := hb1.size; (repeat (first | rw [World.size_alloc] at hz1 | rw [World.size_drew] at hz1)); have z1_0 : w.heap.size < w1.heap.size := (by omega); have z1_1 : w.heap.size + 1 < w1.heap.size := (by omega))
    | (go_at_call 25; refine (awake11_any _).mono ?_; rintro e w2 ⟨rfl, hb2⟩; obtain ⟨hc2, hf2⟩ := hb2.cells; have hz2 := hb2.size; (repeat (first | rw [World.size_alloc] at hz2 | rw [World.size_drew] at hz2))))
  go_ret
  exact ⟨rfl, (by (with_reducible (repeat' (first | exact Ext.refl _ | assumption | refine Ext.drew ?_ | refine Ext.drewN ?_ _ | refine Ext.alloc ?_ _ | refine Ext.setCell ?_ ?_ _ | refine Ext.trans ?_ (by assumption)))); all_goals (first | (simp; done) | (simp; omega)))⟩

theorem ofN_get {W H s : Int} (hr : rightB W H s = true) {k : Nat} (h : k < (boxesAll W H s).length) : (boxesAll W H s)[k] = ((boxX W s k, boxY W s k), (min s (W - boxX W s k), min s (H - boxY W s k))) := boxesAll_get hr k h

set_option maxRecDepth 100000 in
set_option maxHeartbeats 1000000 in
theorem boxes_off (W H s id x y : Int) (w : World) (hs : smallB W H s = true) (hid : ¬ (0 ≤ id ∧ id < cnt W H s)) (ix : InI x) (iy : InI y) :
    Calls Try.prog 5 #[.agg #[.int .i64 W, .int .i64 H, .int .i64 s], .int .i64 id, .agg #[.int .i64 x, .int .i64 y]] w fun e w' => e = .returned (.bool true) ∧ Ext w w' := by
  have hr := (smallB_true.1 hs).1
  have b0 := cnt_bd hr
  have hl := boxesAll_len hr
  have hr' := hide hr
  obtain ⟨N, hN⟩ : ∃ N : Nat, (boxesAll W H s).length = N := ⟨_, rfl⟩
  have hN' : (boxesR W H s (acr H s).toNat).length = N := hN
  have hcN : cnt W H s = (N : Int) := by omega
  have nb : N ≤ 65536 := by omega
  have n0 : 0 < N := by omega
  have hnn := hide (boxesAll_nonneg hr)
  have HI := hide hid
  have hid' : id < 0 ∨ (N : Int) ≤ id := by omega
  clear hl hid b0
  have IX := hide ix
  have IY := hide iy
  cases hin : inB W H x y
  · have hf := hide (fOf_out hr hin)
    rcases hid' with hid' | hid'
    all_goals
      go_enter Try.func5, Try.ntmps5
      go_wp2_with (first
        | (go_at_call 26; refine (small11_any _ _ _ _).mono ?_; rintro e w1 ⟨rfl, hb1⟩; obtain ⟨hc1, hf1⟩ := hb1.cells; have hz1 := hb1.size; (repeat (first | rw [World.size_alloc] at hz1 | rw [World.size_drew] at hz1)); have z1_0 : w.heap.size < w1.heap.size := (by omega); have z1_1 : w.heap.size + 1 < w1.heap.size := (by omega))
        | (go_at_call 27; refine (rBoxes_any _ _ _ _ hr).mono ?_; rintro e w2 ⟨v2, rfl, hb2, hv2⟩; obtain ⟨ao, co, rfl⟩ := hv2.slice; have HV := hide hv2; clear hv2; obtain ⟨hc2, hf2⟩ := hb2.cells; have hz2 := hb2.size; (repeat (first | rw [World.size_alloc] at hz2 | rw [World.size_drew] at hz2)); have z2_0 : w.heap.size < w2.heap.size := (by omega); have z2_1 : w.heap.size + 1 < w2.heap.size := (by omega))
        | (go_at_call 21; refine (Box_range _ _ _ _ _ hr HI.out).mono ?_; rintro e w3 ⟨rfl, hb3⟩; obtain ⟨hc3, hf3⟩ := hb3.cells; have hz3 := hb3.size; (repeat (first | rw [World.size_alloc] at hz3 | rw [World.size_drew] at hz3)); have z3_0 : w.heap.size < w3.heap.size := (by omega); have z3_1 : w.heap.size + 1 < w3.heap.size := (by omega))
        | (go_at_call 20; refine (of_range _ _ _ _ _ _ hr hin).mono ?_; rintro e w4 ⟨rfl, hb4⟩; obtain ⟨hc4, hf4⟩ := hb4.cells; have hz4 := hb4.size; (repeat (first | rw [World.size_alloc] at hz4 | rw [World.size_drew] at hz4)); have z4_0 : w.heap.size < w4.heap.size := (by omega); have z4_1 : w.heap.size + 1 < w4.heap.size := (by omega); have z4_2 : w3.heap.size < w4.heap.size := (by omega))
        | (go_at_call 24; refine (count_yes _ _ _ _ hr).mono ?_; rintro e w5 ⟨rfl, hb5⟩; obtain ⟨hc5, hf5⟩ := hb5.cells; have hz5 := hb5.size; (repeat (first | rw [World.size_alloc] at hz5 | rw [World.size_drew] at hz5)); have z5_0 : w.heap.size < w5.heap.size := (by omega); have z5_1 : w.heap.size + 1 < w5.heap.size := (by omega); have z5_2 : w3.heap.size < w5.heap.size := (by omega)))
      have hv := HV.out
      rw [hN'] at hv
      refine (rOf_any _ (boxesAll W H s) x y _ (by omega) (by omega) (hv.reads.ext (by (with_reducible (repeat' (first | exact Ext.refl _ | assumption | refine Ext.drew ?_ | refine Ext.drewN ?_ _ | refine Ext.alloc ?_ _ | refine Ext.setCell ?_ ?_ _ | refine Ext.trans ?_ (by assumption)))); all_goals (first | (simp; done) | (simp; omega)))) hnn.out IX.out IY.out).mono ?_
      rintro e w6 ⟨rfl, hb6⟩
      rw [hf.out]
      clear hv
      have hz6 := hb6.size
      go_wp2_with (first | (go_at_call 25; refine (awake11_any _).mono ?_; rintro e w7 ⟨rfl, hb7⟩; obtain ⟨hc7, hf7⟩ := hb7.cells; have hz7 := hb7.size; (repeat (first | rw [World.size_alloc] at hz7 | rw [World.size_drew] at hz7))))
      go_ret
      exact ⟨rfl, (by (with_reducible (repeat' (first | exact Ext.refl _ | assumption | refine Ext.drew ?_ | refine Ext.drewN ?_ _ | refine Ext.alloc ?_ _ | refine Ext.setCell ?_ ?_ _ | refine Ext.trans ?_ (by assumption)))); all_goals (first | (simp; done) | (simp; omega)))⟩
  · have hf := hide (fOf_in hr hin)
    have ob := ofN_bd hr hin
    rcases hid' with hid' | hid'
    all_goals
      go_enter Try.func5, Try.ntmps5
      go_wp2_with (first
        | (go_at_call 26; refine (small11_any _ _ _ _).mono ?_; rintro e w1 ⟨rfl, hb1⟩; obtain ⟨hc1, hf1⟩ := hb1.cells; have hz1 := hb1.size; (repeat (first | rw [World.size_alloc] at hz1 | rw [World.size_drew] at hz1)); have z1_0 : w.heap.size < w1.heap.size := (by omega); have z1_1 : w.heap.size + 1 < w1.heap.size := (by omega))
        | (go_at_call 27; refine (rBoxes_any _ _ _ _ hr).mono ?_; rintro e w2 ⟨v2, rfl, hb2, hv2⟩; obtain ⟨ao, co, rfl⟩ := hv2.slice; have HV := hide hv2; clear hv2; obtain ⟨hc2, hf2⟩ := hb2.cells; have hz2 := hb2.size; (repeat (first | rw [World.size_alloc] at hz2 | rw [World.size_drew] at hz2)); have z2_0 : w.heap.size < w2.heap.size := (by omega); have z2_1 : w.heap.size + 1 < w2.heap.size := (by omega))
        | (go_at_call 21; refine (Box_range _ _ _ _ _ hr HI.out).mono ?_; rintro e w3 ⟨rfl, hb3⟩; obtain ⟨hc3, hf3⟩ := hb3.cells; have hz3 := hb3.size; (repeat (first | rw [World.size_alloc] at hz3 | rw [World.size_drew] at hz3)); have z3_0 : w.heap.size < w3.heap.size := (by omega); have z3_1 : w.heap.size + 1 < w3.heap.size := (by omega))
        | (go_at_call 20; refine (of_yes _ _ _ _ _ _ hr hin).mono ?_; rintro e w4 ⟨rfl, hb4⟩; obtain ⟨hc4, hf4⟩ := hb4.cells; have hz4 := hb4.size; (repeat (first | rw [World.size_alloc] at hz4 | rw [World.size_drew] at hz4)); have z4_0 : w.heap.size < w4.heap.size := (by omega); have z4_1 : w.heap.size + 1 < w4.heap.size := (by omega); have z4_2 : w3.heap.size < w4.heap.size := (by omega))
        | (go_at_call 24; refine (count_yes _ _ _ _ hr).mono ?_; rintro e w5 ⟨rfl, hb5⟩; obtain ⟨hc5, hf5⟩ := hb5.cells; have hz5 := hb5.size; (repeat (first | rw [World.size_alloc] at hz5 | rw [World.size_drew] at hz5)); have z5_0 : w.heap.size < w5.heap.size := (by omega); have z5_1 : w.heap.size + 1 < w5.heap.size := (by omega); have z5_2 : w3.heap.size < w5.heap.size := (by omega)))
      have hv := HV.out
      rw [hN'] at hv
      refine (rOf_any _ (boxesAll W H s) x y _ (by omega) (by omega) (hv.reads.ext (by (with_reducible (repeat' (first | exact Ext.refl _ | assumption | refine Ext.drew ?_ | refine Ext.drewN ?_ _ | refine Ext.alloc ?_ _ | refine Ext.setCell ?_ ?_ _ | refine Ext.trans ?_ (by assumption)))); all_goals (first | (simp; done) | (simp; omega)))) hnn.out IX.out IY.out).mono ?_
      rintro e w6 ⟨rfl, hb6⟩
      rw [hf.out]
      clear hv
      have hz6 := hb6.size
      go_wp2_with (first | (go_at_call 25; refine (awake11_any _).mono ?_; rintro e w7 ⟨rfl, hb7⟩; obtain ⟨hc7, hf7⟩ := hb7.cells; have hz7 := hb7.size; (repeat (first | rw [World.size_alloc] at hz7 | rw [World.size_drew] at hz7))))
      go_ret
      exact ⟨rfl, (by (with_reducible (repeat' (first | exact Ext.refl _ | assumption | refine Ext.drew ?_ | refine Ext.drewN ?_ _ | refine Ext.alloc ?_ _ | refine Ext.setCell ?_ ?_ _ | refine Ext.trans ?_ (by assumption)))); all_goals (first | (simp; done) | (simp; omega)))⟩

theorem eq_box (a b c d e f g h : Int) (w : World) : (Op.equalIn 10000 51 (.agg #[.int .i64 a, .int .i64 b, .int .i64 c, .int .i64 d]) (.agg #[.int .i64 e, .int .i64 f, .int .i64 g, .int .i64 h])).run Try.prog w = .ok (a == e && b == f && c == g && d == h) w := by
  have u : Try.prog.underlying 51 = some (.struct (Try.prog.fieldsOf 51)) := by kernel_rfl
  have s : Try.prog.stoodInHeld 51 = false := by kernel_rfl
  rw [run_equalIn_struct w 9999 51 _ _ u s]
  by_cases h1 : a = e <;> by_cases h2 : b = f <;> by_cases h3 : c = g <;> by_cases h4 : d = h <;> simp [go_sem, h1, h2, h3, h4]

set_option maxRecDepth 100000 in
set_option maxHeartbeats 1000000 in
theorem boxes_on (W H s id x y : Int) (w : World) (hs : smallB W H s = true) (h0 : 0 ≤ id) (hid : id < cnt W H s) (ix : InI x) (iy : InI y) :
    Calls Try.prog 5 #[.agg #[.int .i64 W, .int .i64 H, .int .i64 s], .int .i64 id, .agg #[.int .i64 x, .int .i64 y]] w fun e w' => e = .returned (.bool true) ∧ Ext w w' := by
  have hr := (smallB_true.1 hs).1
  have b0 := cnt_bd hr
  have hl := boxesAll_len hr
  obtain ⟨N, hN⟩ : ∃ N : Nat, (boxesAll W H s).length = N := ⟨_, rfl⟩
  have hN' : (boxesR W H s (acr H s).toNat).length = N := hN
  have hcN : cnt W H s = (N : Int) := by omega
  obtain ⟨k, rfl⟩ := Int.eq_ofNat_of_zero_le h0
  have hkN : k < N := by omega
  have HG : Hid ((boxesAll W H s)[k]? = some ((boxX W s k, boxY W s k), (min s (W - boxX W s k), min s (H - boxY W s k)))) := hide (boxesAll_at hr k hid)
  have nb : N ≤ 65536 := by omega
  have n0 : 0 < N := by omega
  have hnn := hide (boxesAll_nonneg hr)
  have HI := hide hid
  clear hl hid b0
  have IX := hide ix
  have IY := hide iy
  have hq := fun w => eq_box (boxX W s k) (boxY W s k) (min s (W - boxX W s k)) (min s (H - boxY W s k)) (boxX W s k) (boxY W s k) (min s (W - boxX W s k)) (min s (H - boxY W s k)) w
  cases hin : inB W H x y
  · have hf := hide (fOf_out hr hin)
    go_enter Try.func5, Try.ntmps5
    go_wp2_with (first
      | (go_at_call 26; refine (small11_any _ _ _ _).mono ?_; rintro e w1 ⟨rfl, hb1⟩; obtain ⟨hc1, hf1⟩ := hb1.cells; have hz1 := hb1.size; (repeat (first | rw [World.size_alloc] at hz1 | rw [World.size_drew] at hz1)); have z1_0 : w.heap.size < w1.heap.size := (by omega); have z1_1 : w.heap.size + 1 < w1.heap.size := (by omega))
      | (go_at_call 27; refine (rBoxes_any _ _ _ _ hr).mono ?_; rintro e w2 ⟨v2, rfl, hb2, hv2⟩; obtain ⟨g, co, rfl, hg1, hg2⟩ := hv2.pos (by omega); obtain ⟨r1, r2, r3, r4⟩ := hv2.reads.pair_at HG.out; have HV := hide hv2; clear hv2; obtain ⟨hc2, hf2⟩ := hb2.cells; have hz2 := hb2.size; (repeat (first | rw [World.size_alloc] at hz2 | rw [World.size_drew] at hz2)); have z2_0 : w.heap.size < w2.heap.size := (by omega); have z2_1 : w.heap.size + 1 < w2.heap.size := (by omega))
      | (go_at_call 21; refine (Box_yes _ _ _ _ _ hr h0 HI.out).mono ?_; rintro e w3 ⟨rfl, hb3⟩; obtain ⟨hc3, hf3⟩ := hb3.cells; have hz3 := hb3.size; (repeat (first | rw [World.size_alloc] at hz3 | rw [World.size_drew] at hz3)); have z3_0 : w.heap.size < w3.heap.size := (by omega); have z3_1 : w.heap.size + 1 < w3.heap.size := (by omega); have z3_2 : g < w3.heap.size := (by omega))
      | (go_at_call 20; refine (of_range _ _ _ _ _ _ hr hin).mono ?_; rintro e w4 ⟨rfl, hb4⟩; obtain ⟨hc4, hf4⟩ := hb4.cells; have hz4 := hb4.size; (repeat (first | rw [World.size_alloc] at hz4 | rw [World.size_drew] at hz4)); have z4_0 : w.heap.size < w4.heap.size := (by omega); have z4_1 : w.heap.size + 1 < w4.heap.size := (by omega); have z4_2 : w3.heap.size < w4.heap.size := (by omega); have z4_3 : g < w4.heap.size := (by omega))
      | (go_at_call 24; refine (count_yes _ _ _ _ hr).mono ?_; rintro e w5 ⟨rfl, hb5⟩; obtain ⟨hc5, hf5⟩ := hb5.cells; have hz5 := hb5.size; (repeat (first | rw [World.size_alloc] at hz5 | rw [World.size_drew] at hz5)); have z5_0 : w.heap.size < w5.heap.size := (by omega); have z5_1 : w.heap.size + 1 < w5.heap.size := (by omega); have z5_2 : w3.heap.size < w5.heap.size := (by omega); have z5_3 : g < w5.heap.size := (by omega)))
    go_quiet (fail)
    have hv := HV.out
    rw [hN'] at hv
    clear hq
    go_wp2_with fail
    refine (rOf_any _ (boxesAll W H s) x y _ (by omega) (by omega) (hv.reads.ext (by (with_reducible (repeat' (first | exact Ext.refl _ | assumption | refine Ext.drew ?_ | refine Ext.drewN ?_ _ | refine Ext.alloc ?_ _ | refine Ext.setCell ?_ ?_ _ | refine Ext.trans ?_ (by assumption)))); all_goals (first | (simp; done) | (simp; omega)))) hnn.out IX.out IY.out).mono ?_
    rintro e w6 ⟨rfl, hb6⟩
    rw [hf.out]
    clear hv
    have hz6 := hb6.size
    go_wp2_with (first | (go_at_call 25; refine (awake11_any _).mono ?_; rintro e w7 ⟨rfl, hb7⟩; obtain ⟨hc7, hf7⟩ := hb7.cells; have hz7 := hb7.size; (repeat (first | rw [World.size_alloc] at hz7 | rw [World.size_drew] at hz7))))
    go_ret
    exact ⟨rfl, (by (with_reducible (repeat' (first | exact Ext.refl _ | assumption | refine Ext.drew ?_ | refine Ext.drewN ?_ _ | refine Ext.alloc ?_ _ | refine Ext.setCell ?_ ?_ _ | refine Ext.trans ?_ (by assumption)))); all_goals (first | (simp; done) | (simp; omega)))⟩
  · have hf := hide (fOf_in hr hin)
    have ob := ofN_bd hr hin
    go_enter Try.func5, Try.ntmps5
    go_wp2_with (first
      | (go_at_call 26; refine (small11_any _ _ _ _).mono ?_; rintro e w1 ⟨rfl, hb1⟩; obtain ⟨hc1, hf1⟩ := hb1.cells; have hz1 := hb1.size; (repeat (first | rw [World.size_alloc] at hz1 | rw [World.size_drew] at hz1)); have z1_0 : w.heap.size < w1.heap.size := (by omega); have z1_1 : w.heap.size + 1 < w1.heap.size := (by omega))
      | (go_at_call 27; refine (rBoxes_any _ _ _ _ hr).mono ?_; rintro e w2 ⟨v2, rfl, hb2, hv2⟩; obtain ⟨g, co, rfl, hg1, hg2⟩ := hv2.pos (by omega); obtain ⟨r1, r2, r3, r4⟩ := hv2.reads.pair_at HG.out; have HV := hide hv2; clear hv2; obtain ⟨hc2, hf2⟩ := hb2.cells; have hz2 := hb2.size; (repeat (first | rw [World.size_alloc] at hz2 | rw [World.size_drew] at hz2)); have z2_0 : w.heap.size < w2.heap.size := (by omega); have z2_1 : w.heap.size + 1 < w2.heap.size := (by omega))
      | (go_at_call 21; refine (Box_yes _ _ _ _ _ hr h0 HI.out).mono ?_; rintro e w3 ⟨rfl, hb3⟩; obtain ⟨hc3, hf3⟩ := hb3.cells; have hz3 := hb3.size; (repeat (first | rw [World.size_alloc] at hz3 | rw [World.size_drew] at hz3)); have z3_0 : w.heap.size < w3.heap.size := (by omega); have z3_1 : w.heap.size + 1 < w3.heap.size := (by omega); have z3_2 : g < w3.heap.size := (by omega))
      | (go_at_call 20; refine (of_yes _ _ _ _ _ _ hr hin).mono ?_; rintro e w4 ⟨rfl, hb4⟩; obtain ⟨hc4, hf4⟩ := hb4.cells; have hz4 := hb4.size; (repeat (first | rw [World.size_alloc] at hz4 | rw [World.size_drew] at hz4)); have z4_0 : w.heap.size < w4.heap.size := (by omega); have z4_1 : w.heap.size + 1 < w4.heap.size := (by omega); have z4_2 : w3.heap.size < w4.heap.size := (by omega); have z4_3 : g < w4.heap.size := (by omega))
      | (go_at_call 24; refine (count_yes _ _ _ _ hr).mono ?_; rintro e w5 ⟨rfl, hb5⟩; obtain ⟨hc5, hf5⟩ := hb5.cells; have hz5 := hb5.size; (repeat (first | rw [World.size_alloc] at hz5 | rw [World.size_drew] at hz5)); have z5_0 : w.heap.size < w5.heap.size := (by omega); have z5_1 : w.heap.size + 1 < w5.heap.size := (by omega); have z5_2 : w3.heap.size < w5.heap.size := (by omega); have z5_3 : g < w5.heap.size := (by omega)))
    go_quiet (fail)
    have hv := HV.out
    rw [hN'] at hv
    clear hq
    go_wp2_with fail
    refine (rOf_any _ (boxesAll W H s) x y _ (by omega) (by omega) (hv.reads.ext (by (with_reducible (repeat' (first | exact Ext.refl _ | assumption | refine Ext.drew ?_ | refine Ext.drewN ?_ _ | refine Ext.alloc ?_ _ | refine Ext.setCell ?_ ?_ _ | refine Ext.trans ?_ (by assumption)))); all_goals (first | (simp; done) | (simp; omega)))) hnn.out IX.out IY.out).mono ?_
    rintro e w6 ⟨rfl, hb6⟩
    rw [hf.out]
    clear hv
    have hz6 := hb6.size
    go_wp2_with (first | (go_at_call 25; refine (awake11_any _).mono ?_; rintro e w7 ⟨rfl, hb7⟩; obtain ⟨hc7, hf7⟩ := hb7.cells; have hz7 := hb7.size; (repeat (first | rw [World.size_alloc] at hz7 | rw [World.size_drew] at hz7))))
    go_ret
    exact ⟨rfl, (by (with_reducible (repeat' (first | exact Ext.refl _ | assumption | refine Ext.drew ?_ | refine Ext.drewN ?_ _ | refine Ext.alloc ?_ _ | refine Ext.setCell ?_ ?_ _ | refine Ext.trans ?_ (by assumption)))); all_goals (first | (simp; done) | (simp; omega)))⟩

theorem partBoxes_any (W H s id x y : Int) (w : World) (ix : InI x) (iy : InI y) :
    Calls Try.prog 5 #[.agg #[.int .i64 W, .int .i64 H, .int .i64 s], .int .i64 id, .agg #[.int .i64 x, .int .i64 y]] w fun e w' => e = .returned (.bool true) ∧ Ext w w' := by
  cases hs : smallB W H s
  · exact boxes_no W H s id x y w hs
  · by_cases hid : 0 ≤ id ∧ id < cnt W H s
    · exact boxes_on W H s id x y w hs hid.1 hid.2 ix iy
    · exact boxes_off W H s id x y w hs hid ix iy

set_option maxRecDepth 100000 in
theorem partBoxes_lifted (os : Os) (started : os.Started) (H : Type) (enc : TypeId × Value → H) :
    ReturnsInHanded {} Try.checked os 5 .any (Rows.partBoxesSpec.pre6 enc Try.prog Try.f5 Rows.partBoxesRow.domain false) (Rows.partBoxesSpec.post enc Try.prog Try.f5 false true false false) := by
  refine returnsInHanded_of_change (C := Try.checked) own started (by kernel_rfl) Try.func5
    (ChangeSpec.witness6 (enc := enc) (C := Try.checked) false ⟨#[], #[.agg #[.int .i64 0, .int .i64 0, .int .i64 0], .int .i64 0, .agg #[.int .i64 0, .int .i64 0]], []⟩ 8 (by kernel_rfl) (by kernel_rfl) (by kernel_rfl) (by kernel_rfl)) ?_
  intro W base args ds gs before hval0 hW hcnd hsz
  have hval : ∀ (j : Nat) t v, Try.f5.params[j]? = some t → args[j]? = some v → Value.okWide Try.prog W .any base t v := hval0
  have hW' := hW
  obtain ⟨p, q, hA0, hV, rfl, hfz, hnd⟩ := hW
  have hA : DataW.TrodAll enc Try.prog W 0 (fun _ => true) true Try.f5.params.toList args.toList ds p := hA0
  rw [Try.params5] at hA hval
  obtain ⟨v0, vs0, d0, ds0, p0, q0, hargs, rfl, rfl, h0, r0⟩ := trodAll_cons hA
  obtain ⟨v1, vs1, d1, ds1, p1, q1, rfl, rfl, rfl, h1, r1⟩ := trodAll_cons r0
  obtain ⟨v2, vs2, d2, ds2, p2, q2, rfl, rfl, rfl, h2, r2⟩ := trodAll_cons r1
  obtain ⟨rfl, rfl, rfl⟩ := trodAll_nil r2
  obtain rfl : args = #[v0, v1, v2] := by cases args; simp_all
  obtain ⟨rfl, rfl⟩ := trodVars_none hV
  have k0 := h0
  have lt0 : ∀ x ∈ p0, x.block < W.heap.size := by obtain ⟨m, hm⟩ := k0; exact DataW.trod_lt m _ _ _ hm
  have k1 := h1
  have lt1 : ∀ x ∈ p1, x.block < W.heap.size := by obtain ⟨m, hm⟩ := k1; exact DataW.trod_lt m _ _ _ hm
  have k2 := h2
  have lt2 : ∀ x ∈ p2, x.block < W.heap.size := by obtain ⟨m, hm⟩ := k2; exact DataW.trod_lt m _ _ _ hm
  obtain ⟨W0, H0, s0, rfl, iW0, iH0, is0⟩ := open_parts (hval 0 42 v0 rfl rfl) h0
  obtain ⟨n1, rfl, rfl, rfl, wf1⟩ := open_int Try.underlying3 (hval 1 3 v1 rfl rfl) h1; have in1 := InI_wf wf1
  obtain ⟨x2, y2, rfl, ix2, iy2⟩ := open_cell (hval 2 44 v2 rfl rfl) h2
  clear hA0 hval0
  refine (partBoxes_any W0 H0 s0 n1 x2 y2 W ix2 iy2).mono fun e W' ⟨he, bel⟩ => ?_
  subst he
  exact ⟨_, rfl, _, _, _, [], _, [], hW', trodAll_mk1 (shut_bool Try.underlying4 _), (trodAll_cons_mk (Below.trod laidOut (by kernel_rfl) (of_decide_eq_true (by kernel_rfl)) k0 bel lt0) (trodAll_cons_mk (Below.trod laidOut (by kernel_rfl) (of_decide_eq_true (by kernel_rfl)) k1 bel lt1) (trodAll_cons_mk (Below.trod laidOut (by kernel_rfl) (of_decide_eq_true (by kernel_rfl)) k2 bel lt2) trodAll_mk0))), rfl, Below.frame bel _, fun h => by cases h⟩

theorem partBoxes_holds : Rows.PartBoxesSaid :=
  OpenClaim.holds_of_wide 5 Try.f5 rfl rfl rfl rfl rfl rfl rfl ⟨rfl, rfl, rfl, rfl, rfl⟩ rfl rfl rfl rfl rfl (by kernel_rfl) Try.func5 (by kernel_rfl)
    (of_decide_eq_true (by kernel_rfl)) (by unfold Func.isWrapper; first | (rw [if_pos (by decide +kernel)]; kernel_rfl) | (rw [if_neg (by decide +kernel)]; exact ⟨rfl, rfl⟩))
    (fun os started H enc _ => partBoxes_lifted os started H enc)
#print axioms partBoxes_holds
end Go.Proofs.Ytgaeelojgoageaa
