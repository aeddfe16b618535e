/- PartBorders: for every map of up to 400 cells that may be cut so and any two numbers, the law returns true and leaves its arguments as they were. No condition. -/
import Derived.Test.YtgaeelojgoageaaPlawD
import Derived.Test.YtgaeelojgoageaaRefF
import Derived.Test.YtgaeelojgoageaaLawNew
import Derived.Test.YtgaeelojgoageaaArgs
namespace Go.Proofs.Ytgaeelojgoageaa
open Go.RowKit Go.ChangeShapes Go.WideShapes Go.ChangeAt

def wantL (W H s a b : Int) : List (Cell × Cell) := if hasI (besideL W H s (min a b)) (max a b) = true then borderL W H s (min a b) (max a b) else []

theorem boxP_nat {W H s id : Int} (hr : rightB W H s = true) (h0 : 0 ≤ id) (hid : id < cnt W H s) : boxP W H s id = ((boxX W s id, boxY W s id), (((boxW W s id).toNat : Int), ((boxH W H s id).toNat : Int))) := by
  have z := box_sz hr h0 hid
  rw [Int.toNat_of_nonneg (by omega), Int.toNat_of_nonneg (by omega)]; rfl

theorem rBorder_law (g c N : Nat) (W H s : Int) (a b : Nat) (w : World) (hr : rightB W H s = true) (hN : (boxesAll W H s).length = N) (ha : a < N) (hb : b < N) (hR : Reads pairE w (.slice (some ⟨g, 0, none⟩) N c) (boxesAll W H s)) :
    Calls Try.prog 31 #[.slice (some ⟨g, 0, none⟩) N c, .int .i64 (a : Int), .int .i64 (b : Int)] w (RetPairs1 w (wantL W H s (a : Int) (b : Int))) := by
  have b0 := cnt_bd hr
  have hl := boxesAll_len hr
  by_cases he : a = b
  · subst he
    have e : wantL W H s (a : Int) (a : Int) = [] := by
      unfold wantL
      rw [show min (a : Int) (a : Int) = a by omega, show max (a : Int) (a : Int) = a by omega, beside_self hr]; rfl
    rw [e]
    exact rBorder_same _ _ w
  · have l1 : ((min a b : Nat) : Int) < cnt W H s := by omega
    have l2 : ((max a b : Nat) : Int) < cnt W H s := by omega
    have hlo := boxesAll_at hr (min a b) l1
    have hhi := boxesAll_at hr (max a b) l2
    have bl := box_bd hr (id := ((min a b : Nat) : Int)) (by omega) l1
    have zl := box_sz hr (id := ((min a b : Nat) : Int)) (by omega) l1
    have bh := box_bd hr (id := ((max a b : Nat) : Int)) (by omega) l2
    obtain ⟨h1, h2, h3, h4, h5, h6⟩ := rightB_true.1 hr
    rw [boxP_nat hr (by omega) l1] at hlo
    have e : wantL W H s (a : Int) (b : Int) = bAll (boxP W H s ((max a b : Nat) : Int)) (boxX W s ((min a b : Nat) : Int)) (boxY W s ((min a b : Nat) : Int)) (boxW W s ((min a b : Nat) : Int)).toNat (boxH W H s ((min a b : Nat) : Int)).toNat := by
      rw [bAll_border hr (by omega) (by omega) l2]
      unfold wantL
      rw [show ((min a b : Nat) : Int) = min (a : Int) (b : Int) by omega, show ((max a b : Nat) : Int) = max (a : Int) (b : Int) by omega]
    rw [e]
    rw [← hN] at hR ⊢
    exact rBorder_two g c (boxesAll W H s) a b _ _ _ _ _ _ _ _ w (by omega) hR he hlo hhi ⟨by omega, by omega, by omega, by omega, by omega, by omega, by omega, by omega⟩

theorem rBeside_law (g c N : Nat) (W H s : Int) (a : Nat) (w : World) (hr : rightB W H s = true) (hN : (boxesAll W H s).length = N) (ha : a < N) (hR : Reads pairE w (.slice (some ⟨g, 0, none⟩) N c) (boxesAll W H s)) :
    Calls Try.prog 30 #[.slice (some ⟨g, 0, none⟩) N c, .int .i64 (a : Int)] w (RetInts1 w (besideL W H s (a : Int))) := by
  have b0 := cnt_bd hr
  have hl := boxesAll_len hr
  have l1 : (a : Int) < cnt W H s := by omega
  have bl := box_bd hr (id := (a : Int)) (by omega) l1
  have zl := box_sz hr (id := (a : Int)) (by omega) l1
  obtain ⟨h1, h2, h3, h4, h5, h6⟩ := rightB_true.1 hr
  rw [← nbL_all hr (by omega) l1]
  rw [← hN] at hR ⊢
  exact rBeside_any g c (boxesAll W H s) a (boxP W H s (a : Int)) w (by omega) hR (boxesAll_at hr a l1) (boxesAll_nonneg hr) ⟨by simp only [boxP]; omega, by simp only [boxP]; omega, by simp only [boxP]; omega, by simp only [boxP]; omega, by simp only [boxP]; omega, by simp only [boxP]; omega⟩

theorem hasE_out {W H s : Int} {l : List Int} (hr : rightB W H s = true) (h : l.any (bad W H s) = true) : hasE W H s l = 10 := by simp [hasE, hr, h]
theorem bad_out {W H s id : Int} (h : ¬ (0 ≤ id ∧ id < cnt W H s)) : bad W H s id = true := by
  cases hb : bad W H s id
  · exact absurd (bad_false_iff.1 hb) h
  · rfl
theorem Beside_range (W H s id : Int) (w : World) (hr : rightB W H s = true) (h : ¬ (0 ≤ id ∧ id < cnt W H s)) :
    Calls Try.prog 22 #[.agg #[.int .i64 W, .int .i64 H, .int .i64 s], .int .i64 id] w fun e w' => e = .returned (.tuple #[.slice none 0 0, .int .i64 10]) ∧ Ext w w' := by
  have e := hasE_out (l := [id]) hr (by simp [bad_out h])
  have h' := Beside_no W H s id w (by rw [e]; rfl)
  rwa [e] at h'
theorem Border_range (W H s a b : Int) (w : World) (hr : rightB W H s = true) (h : ¬ (0 ≤ a ∧ a < cnt W H s) ∨ ¬ (0 ≤ b ∧ b < cnt W H s)) :
    Calls Try.prog 23 #[.agg #[.int .i64 W, .int .i64 H, .int .i64 s], .int .i64 a, .int .i64 b] w fun e w' => e = .returned (.tuple #[.slice none 0 0, .int .i64 10]) ∧ Ext w w' := by
  have e := hasE_out (l := [a, b]) hr (by rcases h with h | h <;> simp [bad_out h])
  have h' := Border_err W H s a b w (by rw [e]; rfl)
  rwa [e] at h'

theorem bord_no (W H s a b : Int) (w : World) (hs : smallB W H s = false) :
    Calls Try.prog 6 #[.agg #[.int .i64 W, .int .i64 H, .int .i64 s], .int .i64 a, .int .i64 b] w fun e w' => e = .returned (.bool true) ∧ Ext w w' := by
  go_enter Try.func6, Try.ntmps6
  go_wp2_with (first
    | (go_at_call 26; refine (small11_any _ _ _ _).mono ?_; rintro e w1 ⟨rfl, hb1⟩; obtain ⟨hc1, hf1⟩ := hb1.cells; have hz1 := hb1.size; (repeat (first | rw [World.size_alloc] at hz1 | rw [World.size_drew] at hz1)); have z1_0 : w.heap.size < w1.heap.size := (by omega))
    | (go_at_call 25; refine (awake11_any _).mono ?_; rintro e w2 ⟨rfl, hb2⟩; obtain ⟨hc2, hf2⟩ := hb2.cells; have hz2 := hb2.size; (repeat (first | rw [World.size_alloc] at hz2 | rw [World.size_drew] at hz2))))
  go_ret
  exact ⟨rfl, (by (with_reducible (repeat' (first | exact Ext.refl _ | assumption | refine Ext.drew ?_ | refine Ext.drewN ?_ _ | refine Ext.alloc ?_ _ | refine Ext.setCell ?_ ?_ _ | refine Ext.trans ?_ (by assumption)))); all_goals (first | (simp; done) | (simp; omega)))⟩

set_option maxRecDepth 100000 in
set_option maxHeartbeats 2000000 in
theorem bord_off (W H s a b : Int) (w : World) (hs : smallB W H s = true) (hid : ¬ (0 ≤ a ∧ a < cnt W H s)) :
    Calls Try.prog 6 #[.agg #[.int .i64 W, .int .i64 H, .int .i64 s], .int .i64 a, .int .i64 b] w fun e w' => e = .returned (.bool true) ∧ Ext w w' := by
  have hr := (smallB_true.1 hs).1
  have b0 := cnt_bd hr
  have hl := boxesAll_len hr
  obtain ⟨N, hN⟩ : ∃ N : Nat, (boxesAll W H s).length = N := ⟨_, rfl⟩
  have hN' : (boxesR W H s (acr H s).toNat).length = N := hN
  have nb : N ≤ 65536 := by omega
  have HI := hide hid
  have hid' : a < 0 ∨ (N : Int) ≤ a := by omega
  clear hl hid b0
  rcases hid' with hid' | hid'
  all_goals
    go_enter Try.func6, Try.ntmps6
    go_wp2_with (first
      | (go_at_call 26; refine (small11_any _ _ _ _).mono ?_; rintro e w1 ⟨rfl, hb1⟩; obtain ⟨hc1, hf1⟩ := hb1.cells; have hz1 := hb1.size; (repeat (first | rw [World.size_alloc] at hz1 | rw [World.size_drew] at hz1)); have z1_0 : w.heap.size < w1.heap.size := (by omega))
      | (go_at_call 27; refine (rBoxes_any _ _ _ _ hr).mono ?_; rintro e w2 ⟨v2, rfl, hb2, hv2⟩; obtain ⟨ao, co, rfl⟩ := hv2.slice; have HV := hide hv2; clear hv2; obtain ⟨hc2, hf2⟩ := hb2.cells; have hz2 := hb2.size; (repeat (first | rw [World.size_alloc] at hz2 | rw [World.size_drew] at hz2)); have z2_0 : w.heap.size < w2.heap.size := (by omega))
      | (go_at_call 22; refine (Beside_range _ _ _ _ _ hr HI.out).mono ?_; rintro e w3 ⟨rfl, hb3⟩; obtain ⟨hc3, hf3⟩ := hb3.cells; have hz3 := hb3.size; (repeat (first | rw [World.size_alloc] at hz3 | rw [World.size_drew] at hz3)); have z3_0 : w.heap.size < w3.heap.size := (by omega))
      | (go_at_call 23; refine (Border_range _ _ _ _ _ _ hr (.inl HI.out)).mono ?_; rintro e w4 ⟨rfl, hb4⟩; obtain ⟨hc4, hf4⟩ := hb4.cells; have hz4 := hb4.size; (repeat (first | rw [World.size_alloc] at hz4 | rw [World.size_drew] at hz4)); have z4_0 : w.heap.size < w4.heap.size := (by omega))
      | (go_at_call 25; refine (awake11_any _).mono ?_; rintro e w5 ⟨rfl, hb5⟩; obtain ⟨hc5, hf5⟩ := hb5.cells; have hz5 := hb5.size; (repeat (first | rw [World.size_alloc] at hz5 | rw [World.size_drew] at hz5))))
    go_ret
    exact ⟨rfl, (by (with_reducible (repeat' (first | exact Ext.refl _ | assumption | refine Ext.drew ?_ | refine Ext.drewN ?_ _ | refine Ext.alloc ?_ _ | refine Ext.setCell ?_ ?_ _ | refine Ext.trans ?_ (by assumption)))); all_goals (first | (simp; done) | (simp; omega)))⟩

set_option maxRecDepth 100000 in
set_option maxHeartbeats 4000000 in
theorem bord_half (W H s b : Int) (k : Nat) (w : World) (hs : smallB W H s = true) (hk : (k : Int) < cnt W H s) (hid : ¬ (0 ≤ b ∧ b < cnt W H s)) :
    Calls Try.prog 6 #[.agg #[.int .i64 W, .int .i64 H, .int .i64 s], .int .i64 (k : Int), .int .i64 b] w fun e w' => e = .returned (.bool true) ∧ Ext w w' := by
  have hr := (smallB_true.1 hs).1
  have b0 := cnt_bd hr
  have hl := boxesAll_len hr
  obtain ⟨N, hN⟩ : ∃ N : Nat, (boxesAll W H s).length = N := ⟨_, rfl⟩
  have hN' : (boxesR W H s (acr H s).toNat).length = N := hN
  have HN := hide hN
  have nb : N ≤ 65536 := by omega
  have hkN : k < N := by omega
  have HI := hide hid
  have HK := hide hk
  have hid' : b < 0 ∨ (N : Int) ≤ b := by omega
  have hbl := besideL_len W H s (k : Int)
  clear hl hid b0 hk hN
  rcases hid' with hid' | hid'
  all_goals
    go_enter Try.func6, Try.ntmps6
    go_wp2_with (first
      | (go_at_call 26; refine (small11_any _ _ _ _).mono ?_; rintro e w1 ⟨rfl, hb1⟩; obtain ⟨hc1, hf1⟩ := hb1.cells; have hz1 := hb1.size; (repeat (first | rw [World.size_alloc] at hz1 | rw [World.size_drew] at hz1)); have z1_0 : w.heap.size < w1.heap.size := (by omega))
      | (go_at_call 27; refine (rBoxes_any _ _ _ _ hr).mono ?_; rintro e w2 ⟨v2, rfl, hb2, hv2⟩; obtain ⟨g, co, rfl, hg1, hg2⟩ := hv2.pos (by omega); have HV := hide hv2; clear hv2; obtain ⟨hc2, hf2⟩ := hb2.cells; have hz2 := hb2.size; (repeat (first | rw [World.size_alloc] at hz2 | rw [World.size_drew] at hz2)); have z2_0 : w.heap.size < w2.heap.size := (by omega))
      | (go_at_call 22; refine (Beside_yes W H s (k : Int) _ hr (by omega) HK.out).mono ?_; rintro e w3 ⟨v, rfl, hb3, hv3⟩; obtain ⟨a3, c3, rfl⟩ := hv3.slice; have HV3 := hide hv3; clear hv3; obtain ⟨hc3, hf3⟩ := hb3.cells; have hz3 := hb3.size; (repeat (first | rw [World.size_alloc] at hz3 | rw [World.size_drew] at hz3)); have z3_0 : w.heap.size < w3.heap.size := (by omega); have z3_1 : g < w3.heap.size := (by omega))
      | (go_at_call 23; refine (Border_range _ _ _ _ _ _ hr (.inr HI.out)).mono ?_; rintro e w4 ⟨rfl, hb4⟩; obtain ⟨hc4, hf4⟩ := hb4.cells; have hz4 := hb4.size; (repeat (first | rw [World.size_alloc] at hz4 | rw [World.size_drew] at hz4)); have z4_0 : w.heap.size < w4.heap.size := (by omega); have z4_1 : g < w4.heap.size := (by omega)))
    have hv := HV.out
    rw [hN'] at hv
    refine (rBeside_law _ _ N W H s k _ hr HN.out hkN (hv.reads.ext (by (with_reducible (repeat' (first | exact Ext.refl _ | assumption | refine Ext.drew ?_ | refine Ext.drewN ?_ _ | refine Ext.alloc ?_ _ | refine Ext.setCell ?_ ?_ _ | refine Ext.trans ?_ (by assumption)))); all_goals (first | (simp; done) | (simp; omega))))).mono ?_
    rintro e w5 ⟨v, rfl, hb5, hv5⟩
    obtain ⟨a5, c5, rfl⟩ := hv5.slice
    have hz5 := hb5.size
    have HV5 := hide hv5
    clear hv hv5
    go_wp2_with fail
    refine (ints11_any _ _ _ _ _ (by omega) (by omega) (HV3.out.reads.ext (by (with_reducible (repeat' (first | exact Ext.refl _ | assumption | refine Ext.drew ?_ | refine Ext.drewN ?_ _ | refine Ext.alloc ?_ _ | refine Ext.setCell ?_ ?_ _ | refine Ext.trans ?_ (by assumption)))); all_goals (first | (simp; done) | (simp; omega)))) HV5.out.reads).mono ?_
    rintro e w6 ⟨rfl, hb6⟩
    rw [beq_self_eq_true]
    have hz6 := hb6.size
    go_wp2_with (first | (go_at_call 25; refine (awake11_any _).mono ?_; rintro e w7 ⟨rfl, hb7⟩; obtain ⟨hc7, hf7⟩ := hb7.cells; have hz7 := hb7.size; (repeat (first | rw [World.size_alloc] at hz7 | rw [World.size_drew] at hz7))))
    go_ret
    exact ⟨rfl, (by (with_reducible (repeat' (first | exact Ext.refl _ | assumption | refine Ext.drew ?_ | refine Ext.drewN ?_ _ | refine Ext.alloc ?_ _ | refine Ext.setCell ?_ ?_ _ | refine Ext.trans ?_ (by assumption)))); all_goals (first | (simp; done) | (simp; omega)))⟩

theorem borderL_pos {W H s lo hi : Int} (hr : rightB W H s = true) (h0 : 0 ≤ lo) (h1 : lo < cnt W H s) : 1 ≤ (borderL W H s lo hi).length := by
  have z := box_sz hr h0 h1
  unfold borderL
  split
  · rw [sideL_len]; omega
  · rw [lowL_len]; omega

set_option maxRecDepth 100000 in
set_option maxHeartbeats 4000000 in
theorem bord_far (W H s : Int) (k m : Nat) (w : World) (hs : smallB W H s = true) (hk : (k : Int) < cnt W H s) (hm : (m : Int) < cnt W H s) (hn : hasI (besideL W H s (min (k : Int) (m : Int))) (max (k : Int) (m : Int)) = false) :
    Calls Try.prog 6 #[.agg #[.int .i64 W, .int .i64 H, .int .i64 s], .int .i64 (k : Int), .int .i64 (m : Int)] w fun e w' => e = .returned (.bool true) ∧ Ext w w' := by
  have hr := (smallB_true.1 hs).1
  have b0 := cnt_bd hr
  have hl := boxesAll_len hr
  obtain ⟨N, hN⟩ : ∃ N : Nat, (boxesAll W H s).length = N := ⟨_, rfl⟩
  have hN' : (boxesR W H s (acr H s).toNat).length = N := hN
  have HN := hide hN
  have nb : N ≤ 65536 := by omega
  have hkN : k < N := by omega
  have hmN : m < N := by omega
  have HK := hide hk
  have HM := hide hm
  have hbl := besideL_len W H s (k : Int)
  have HNE := hide hn
  clear hl b0 hk hm hN hn
  go_enter Try.func6, Try.ntmps6
  go_wp2_with (first
    | (go_at_call 26; refine (small11_any _ _ _ _).mono ?_; rintro e w1 ⟨rfl, hb1⟩; obtain ⟨hc1, hf1⟩ := hb1.cells; have hz1 := hb1.size; (repeat (first | rw [World.size_alloc] at hz1 | rw [World.size_drew] at hz1)); have z1_0 : w.heap.size < w1.heap.size := (by omega))
    | (go_at_call 27; refine (rBoxes_any _ _ _ _ hr).mono ?_; rintro e w2 ⟨v2, rfl, hb2, hv2⟩; obtain ⟨g, co, rfl, hg1, hg2⟩ := hv2.pos (by omega); have HV := hide hv2; clear hv2; obtain ⟨hc2, hf2⟩ := hb2.cells; have hz2 := hb2.size; (repeat (first | rw [World.size_alloc] at hz2 | rw [World.size_drew] at hz2)); have z2_0 : w.heap.size < w2.heap.size := (by omega))
    | (go_at_call 22; refine (Beside_yes W H s (k : Int) _ hr (by omega) HK.out).mono ?_; rintro e w3 ⟨v, rfl, hb3, hv3⟩; obtain ⟨a3, c3, rfl⟩ := hv3.slice; have HV3 := hide hv3; clear hv3; obtain ⟨hc3, hf3⟩ := hb3.cells; have hz3 := hb3.size; (repeat (first | rw [World.size_alloc] at hz3 | rw [World.size_drew] at hz3)); have z3_0 : w.heap.size < w3.heap.size := (by omega); have z3_1 : g < w3.heap.size := (by omega))
    | (go_at_call 23; refine (Border_arg W H s _ _ _ hr (by omega) HK.out (by omega) HM.out HNE.out).mono ?_; rintro e w4 ⟨rfl, hb4⟩; obtain ⟨hc4, hf4⟩ := hb4.cells; have hz4 := hb4.size; (repeat (first | rw [World.size_alloc] at hz4 | rw [World.size_drew] at hz4)); have z4_0 : w.heap.size < w4.heap.size := (by omega); have z4_1 : g < w4.heap.size := (by omega)))
  have hv := HV.out
  rw [hN'] at hv
  refine (rBeside_law _ _ N W H s k _ hr HN.out hkN (hv.reads.ext (by (with_reducible (repeat' (first | exact Ext.refl _ | assumption | refine Ext.drew ?_ | refine Ext.drewN ?_ _ | refine Ext.alloc ?_ _ | refine Ext.setCell ?_ ?_ _ | refine Ext.trans ?_ (by assumption)))); all_goals (first | (simp; done) | (simp; omega))))).mono ?_
  rintro e w5 ⟨v, rfl, hb5, hv5⟩
  obtain ⟨a5, c5, rfl⟩ := hv5.slice
  have hz5 := hb5.size
  have HV5 := hide hv5
  clear hv hv5
  go_wp2_with fail
  refine (ints11_any _ _ _ _ _ (by omega) (by omega) (HV3.out.reads.ext (by (with_reducible (repeat' (first | exact Ext.refl _ | assumption | refine Ext.drew ?_ | refine Ext.drewN ?_ _ | refine Ext.alloc ?_ _ | refine Ext.setCell ?_ ?_ _ | refine Ext.trans ?_ (by assumption)))); all_goals (first | (simp; done) | (simp; omega)))) HV5.out.reads).mono ?_
  rintro e w6 ⟨rfl, hb6⟩
  rw [beq_self_eq_true]
  have hz6 := hb6.size
  go_wp2_with fail
  have hv := HV.out
  rw [hN'] at hv
  refine (rBorder_law _ _ N W H s k m _ hr HN.out hkN hmN (hv.reads.ext (by (with_reducible (repeat' (first | exact Ext.refl _ | assumption | refine Ext.drew ?_ | refine Ext.drewN ?_ _ | refine Ext.alloc ?_ _ | refine Ext.setCell ?_ ?_ _ | refine Ext.trans ?_ (by assumption)))); all_goals (first | (simp; done) | (simp; omega))))).mono ?_
  rintro e w7 ⟨v, rfl, hb7, hv7⟩
  have hz7 := hb7.size
  clear hv
  have ew : wantL W H s (k : Int) (m : Int) = [] := by unfold wantL; rw [HNE.out]; rfl
  rw [ew] at hv7
  obtain ⟨a7, c7, rfl⟩ := hv7.slice
  clear ew hv7
  go_wp2_with (first | (go_at_call 25; refine (awake11_any _).mono ?_; rintro e w8 ⟨rfl, hb8⟩; obtain ⟨hc8, hf8⟩ := hb8.cells; have hz8 := hb8.size; (repeat (first | rw [World.size_alloc] at hz8 | rw [World.size_drew] at hz8))))
  go_ret
  exact ⟨rfl, (by (with_reducible (repeat' (first | exact Ext.refl _ | assumption | refine Ext.drew ?_ | refine Ext.drewN ?_ _ | refine Ext.alloc ?_ _ | refine Ext.setCell ?_ ?_ _ | refine Ext.trans ?_ (by assumption)))); all_goals (first | (simp; done) | (simp; omega)))⟩

set_option maxRecDepth 100000 in
set_option maxHeartbeats 4000000 in
theorem bord_near (W H s : Int) (k m : Nat) (w : World) (hs : smallB W H s = true) (hk : (k : Int) < cnt W H s) (hm : (m : Int) < cnt W H s) (hn : hasI (besideL W H s (min (k : Int) (m : Int))) (max (k : Int) (m : Int)) = true) :
    Calls Try.prog 6 #[.agg #[.int .i64 W, .int .i64 H, .int .i64 s], .int .i64 (k : Int), .int .i64 (m : Int)] w fun e w' => e = .returned (.bool true) ∧ Ext w w' := by
  have hr := (smallB_true.1 hs).1
  have b0 := cnt_bd hr
  have hl := boxesAll_len hr
  obtain ⟨N, hN⟩ : ∃ N : Nat, (boxesAll W H s).length = N := ⟨_, rfl⟩
  have hN' : (boxesR W H s (acr H s).toNat).length = N := hN
  have HN := hide hN
  have nb : N ≤ 65536 := by omega
  have hkN : k < N := by omega
  have hmN : m < N := by omega
  have HK := hide hk
  have HM := hide hm
  have hbl := besideL_len W H s (k : Int)
  have HNE := hide hn
  have hlB := borderL_len (hi := max (k : Int) (m : Int)) hr (lo := min (k : Int) (m : Int)) (by omega) (by omega)
  have hlP := borderL_pos (hi := max (k : Int) (m : Int)) hr (lo := min (k : Int) (m : Int)) (by omega) (by omega)
  clear hl b0 hk hm hN hn
  go_enter Try.func6, Try.ntmps6
  go_wp2_with (first
    | (go_at_call 26; refine (small11_any _ _ _ _).mono ?_; rintro e w1 ⟨rfl, hb1⟩; obtain ⟨hc1, hf1⟩ := hb1.cells; have hz1 := hb1.size; (repeat (first | rw [World.size_alloc] at hz1 | rw [World.size_drew] at hz1)); have z1_0 : w.heap.size < w1.heap.size := (by omega))
    | (go_at_call 27; refine (rBoxes_any _ _ _ _ hr).mono ?_; rintro e w2 ⟨v2, rfl, hb2, hv2⟩; obtain ⟨g, co, rfl, hg1, hg2⟩ := hv2.pos (by omega); have HV := hide hv2; clear hv2; obtain ⟨hc2, hf2⟩ := hb2.cells; have hz2 := hb2.size; (repeat (first | rw [World.size_alloc] at hz2 | rw [World.size_drew] at hz2)); have z2_0 : w.heap.size < w2.heap.size := (by omega))
    | (go_at_call 22; refine (Beside_yes W H s (k : Int) _ hr (by omega) HK.out).mono ?_; rintro e w3 ⟨v, rfl, hb3, hv3⟩; obtain ⟨a3, c3, rfl⟩ := hv3.slice; have HV3 := hide hv3; clear hv3; obtain ⟨hc3, hf3⟩ := hb3.cells; have hz3 := hb3.size; (repeat (first | rw [World.size_alloc] at hz3 | rw [World.size_drew] at hz3)); have z3_0 : w.heap.size < w3.heap.size := (by omega); have z3_1 : g < w3.heap.size := (by omega))
    | (go_at_call 23; refine (Border_yes W H s (k : Int) (m : Int) _ hr (by omega) HK.out (by omega) HM.out HNE.out).mono ?_; rintro e w4 ⟨v, rfl, hb4, hv4⟩; obtain ⟨a4, c4, rfl⟩ := hv4.slice; have HV4 := hide hv4; clear hv4; obtain ⟨hc4, hf4⟩ := hb4.cells; have hz4 := hb4.size; (repeat (first | rw [World.size_alloc] at hz4 | rw [World.size_drew] at hz4)); have z4_0 : w.heap.size < w4.heap.size := (by omega); have z4_1 : g < w4.heap.size := (by omega)))
  have hv := HV.out
  rw [hN'] at hv
  refine (rBeside_law _ _ N W H s k _ hr HN.out hkN (hv.reads.ext (by (with_reducible (repeat' (first | exact Ext.refl _ | assumption | refine Ext.drew ?_ | refine Ext.drewN ?_ _ | refine Ext.alloc ?_ _ | refine Ext.setCell ?_ ?_ _ | refine Ext.trans ?_ (by assumption)))); all_goals (first | (simp; done) | (simp; omega))))).mono ?_
  rintro e w5 ⟨v, rfl, hb5, hv5⟩
  obtain ⟨a5, c5, rfl⟩ := hv5.slice
  have hz5 := hb5.size
  have HV5 := hide hv5
  clear hv hv5
  go_wp2_with fail
  refine (ints11_any _ _ _ _ _ (by omega) (by omega) (HV3.out.reads.ext (by (with_reducible (repeat' (first | exact Ext.refl _ | assumption | refine Ext.drew ?_ | refine Ext.drewN ?_ _ | refine Ext.alloc ?_ _ | refine Ext.setCell ?_ ?_ _ | refine Ext.trans ?_ (by assumption)))); all_goals (first | (simp; done) | (simp; omega)))) HV5.out.reads).mono ?_
  rintro e w6 ⟨rfl, hb6⟩
  rw [beq_self_eq_true]
  have hz6 := hb6.size
  go_wp2_with fail
  have hv := HV.out
  rw [hN'] at hv
  refine (rBorder_law _ _ N W H s k m _ hr HN.out hkN hmN (hv.reads.ext (by (with_reducible (repeat' (first | exact Ext.refl _ | assumption | refine Ext.drew ?_ | refine Ext.drewN ?_ _ | refine Ext.alloc ?_ _ | refine Ext.setCell ?_ ?_ _ | refine Ext.trans ?_ (by assumption)))); all_goals (first | (simp; done) | (simp; omega))))).mono ?_
  rintro e w7 ⟨v, rfl, hb7, hv7⟩
  have hz7 := hb7.size
  clear hv
  have ew : wantL W H s (k : Int) (m : Int) = borderL W H s (min (k : Int) (m : Int)) (max (k : Int) (m : Int)) := by unfold wantL; rw [HNE.out]; rfl
  rw [ew] at hv7
  obtain ⟨a7, c7, rfl⟩ := hv7.slice
  have HV7 := hide hv7
  clear ew hv7
  generalize borderL W H s (min (k : Int) (m : Int)) (max (k : Int) (m : Int)) = B at *
  have nz : ((B.length : Int) == 0) = false := by rw [beq_eq_false_iff_ne]; omega
  go_wp2_with fail
  refine (pairs11_any _ _ _ _ _ (by omega) (by omega) (HV4.out.reads.ext (by (with_reducible (repeat' (first | exact Ext.refl _ | assumption | refine Ext.drew ?_ | refine Ext.drewN ?_ _ | refine Ext.alloc ?_ _ | refine Ext.setCell ?_ ?_ _ | refine Ext.trans ?_ (by assumption)))); all_goals (first | (simp; done) | (simp; omega)))) HV7.out.reads).mono ?_
  rintro e w8 ⟨rfl, hb8⟩
  rw [beq_self_eq_true]
  have hz8 := hb8.size
  go_wp2_with (first | (go_at_call 25; refine (awake11_any _).mono ?_; rintro e w9 ⟨rfl, hb9⟩; obtain ⟨hc9, hf9⟩ := hb9.cells; have hz9 := hb9.size; (repeat (first | rw [World.size_alloc] at hz9 | rw [World.size_drew] at hz9))))
  go_ret
  exact ⟨rfl, (by (with_reducible (repeat' (first | exact Ext.refl _ | assumption | refine Ext.drew ?_ | refine Ext.drewN ?_ _ | refine Ext.alloc ?_ _ | refine Ext.setCell ?_ ?_ _ | refine Ext.trans ?_ (by assumption)))); all_goals (first | (simp; done) | (simp; omega)))⟩

theorem partBorders_any (W H s a b : Int) (w : World) :
    Calls Try.prog 6 #[.agg #[.int .i64 W, .int .i64 H, .int .i64 s], .int .i64 a, .int .i64 b] w fun e w' => e = .returned (.bool true) ∧ Ext w w' := by
  cases hs : smallB W H s
  · exact bord_no W H s a b w hs
  · by_cases ha : 0 ≤ a ∧ a < cnt W H s
    · obtain ⟨k, rfl⟩ := Int.eq_ofNat_of_zero_le ha.1
      by_cases hb : 0 ≤ b ∧ b < cnt W H s
      · obtain ⟨m, rfl⟩ := Int.eq_ofNat_of_zero_le hb.1
        cases hn : hasI (besideL W H s (min (k : Int) (m : Int))) (max (k : Int) (m : Int))
        · exact bord_far W H s k m w hs ha.2 hb.2 hn
        · exact bord_near W H s k m w hs ha.2 hb.2 hn
      · exact bord_half W H s b k w hs ha.2 hb
    · exact bord_off W H s a b w hs ha

set_option maxRecDepth 100000 in
theorem partBorders_lifted (os : Os) (started : os.Started) (H : Type) (enc : TypeId × Value → H) :
    ReturnsInHanded {} Try.checked os 6 .any (Rows.partBordersSpec.pre6 enc Try.prog Try.f6 Rows.partBordersRow.domain false) (Rows.partBordersSpec.post enc Try.prog Try.f6 false true false false) := by
  refine returnsInHanded_of_change (C := Try.checked) own started (by kernel_rfl) Try.func6
    (ChangeSpec.witness6 (enc := enc) (C := Try.checked) false ⟨#[], #[.agg #[.int .i64 0, .int .i64 0, .int .i64 0], .int .i64 0, .int .i64 0], []⟩ 8 (by kernel_rfl) (by kernel_rfl) (by kernel_rfl) (by kernel_rfl)) ?_
  intro W base args ds gs before hval0 hW hcnd hsz
  have hval : ∀ (j : Nat) t v, Try.f6.params[j]? = some t → args[j]? = some v → Value.okWide Try.prog W .any base t v := hval0
  have hW' := hW
  obtain ⟨p, q, hA0, hV, rfl, hfz, hnd⟩ := hW
  have hA : DataW.TrodAll enc Try.prog W 0 (fun _ => true) true Try.f6.params.toList args.toList ds p := hA0
  rw [Try.params6] at hA hval
  obtain ⟨v0, vs0, d0, ds0, p0, q0, hargs, rfl, rfl, h0, r0⟩ := trodAll_cons hA
  obtain ⟨v1, vs1, d1, ds1, p1, q1, rfl, rfl, rfl, h1, r1⟩ := trodAll_cons r0
  obtain ⟨v2, vs2, d2, ds2, p2, q2, rfl, rfl, rfl, h2, r2⟩ := trodAll_cons r1
  obtain ⟨rfl, rfl, rfl⟩ := trodAll_nil r2
  obtain rfl : args = #[v0, v1, v2] := by cases args; simp_all
  obtain ⟨rfl, rfl⟩ := trodVars_none hV
  have k0 := h0
  have lt0 : ∀ x ∈ p0, x.block < W.heap.size := by obtain ⟨m, hm⟩ := k0; exact DataW.trod_lt m _ _ _ hm
  have k1 := h1
  have lt1 : ∀ x ∈ p1, x.block < W.heap.size := by obtain ⟨m, hm⟩ := k1; exact DataW.trod_lt m _ _ _ hm
  have k2 := h2
  have lt2 : ∀ x ∈ p2, x.block < W.heap.size := by obtain ⟨m, hm⟩ := k2; exact DataW.trod_lt m _ _ _ hm
  obtain ⟨W0, H0, s0, rfl, iW0, iH0, is0⟩ := open_parts (hval 0 42 v0 rfl rfl) h0
  obtain ⟨n1, rfl, rfl, rfl, wf1⟩ := open_int Try.underlying3 (hval 1 3 v1 rfl rfl) h1; have in1 := InI_wf wf1
  obtain ⟨n2, rfl, rfl, rfl, wf2⟩ := open_int Try.underlying3 (hval 2 3 v2 rfl rfl) h2; have in2 := InI_wf wf2
  clear hA0 hval0
  refine (partBorders_any W0 H0 s0 n1 n2 W).mono fun e W' ⟨he, bel⟩ => ?_
  subst he
  exact ⟨_, rfl, _, _, _, [], _, [], hW', trodAll_mk1 (shut_bool Try.underlying4 _), (trodAll_cons_mk (Below.trod laidOut (by kernel_rfl) (of_decide_eq_true (by kernel_rfl)) k0 bel lt0) (trodAll_cons_mk (Below.trod laidOut (by kernel_rfl) (of_decide_eq_true (by kernel_rfl)) k1 bel lt1) (trodAll_cons_mk (Below.trod laidOut (by kernel_rfl) (of_decide_eq_true (by kernel_rfl)) k2 bel lt2) trodAll_mk0))), rfl, Below.frame bel _, fun h => by cases h⟩

theorem partBorders_holds : Rows.PartBordersSaid :=
  OpenClaim.holds_of_wide 6 Try.f6 rfl rfl rfl rfl rfl rfl rfl ⟨rfl, rfl, rfl, rfl, rfl⟩ rfl rfl rfl rfl rfl (by kernel_rfl) Try.func6 (by kernel_rfl)
    (of_decide_eq_true (by kernel_rfl)) (by unfold Func.isWrapper; first | (rw [if_pos (by decide +kernel)]; kernel_rfl) | (rw [if_neg (by decide +kernel)]; exact ⟨rfl, rfl⟩))
    (fun os started H enc _ => partBorders_lifted os started H enc)
#print axioms partBorders_holds
end Go.Proofs.Ytgaeelojgoageaa
