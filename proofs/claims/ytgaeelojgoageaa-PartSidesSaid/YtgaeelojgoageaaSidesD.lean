/- The walk of the statement PartSides: two clusters (the second cell is the upper or the left one). -/
import Derived.Test.YtgaeelojgoageaaSidesB
namespace Go.Proofs.Ytgaeelojgoageaa
open Go.RowKit

set_option maxRecDepth 1000000 in
set_option maxHeartbeats 20000000 in
theorem sides_main2 (W H s x y nx ny dir lo hi : Int) (w : World) (hs : smallB W H s = true) (hr : rightB W H s = true) (hi0 : inB W H x y = true) (hd : dir = 0 ∨ dir = 3)
    (hstep : ∀ w, Calls Try.prog 35 #[.agg #[.int .i64 x, .int .i64 y], .int .i64 dir] w fun e w' => e = .returned (.agg #[.int .i64 nx, .int .i64 ny]) ∧ Ext w w')
    (hofc : ∀ w, Calls Try.prog 20 #[.agg #[.int .i64 W, .int .i64 H, .int .i64 s], .agg #[.int .i64 x, .int .i64 y]] w fun e w' => e = .returned (.tuple #[.int .i64 hi, .int .i64 0]) ∧ Ext w w')
    (hofn : ∀ w, Calls Try.prog 20 #[.agg #[.int .i64 W, .int .i64 H, .int .i64 s], .agg #[.int .i64 nx, .int .i64 ny]] w fun e w' => e = .returned (.tuple #[.int .i64 lo, .int .i64 0]) ∧ Ext w w')
    (hP : Pair W H s lo hi) (k0 : Nat) (hk0 : k0 < (borderL W H s lo hi).length) (huni : ∀ (j : Nat) (r : Cell × Cell), (borderL W H s lo hi)[j]? = some r → (r = ((nx, ny), (x, y)) ↔ j = k0)) :
    Calls Try.prog 8 #[.agg #[.int .i64 W, .int .i64 H, .int .i64 s], .agg #[.int .i64 x, .int .i64 y], .int .i64 dir] w fun e w' => e = .returned (.bool true) ∧ Ext w w' := by
  obtain ⟨_, _, _, _, i1, i2, i3, i4⟩ := inB_true.1 hi0
  have b0 := cnt_bd hr
  have hlt := hP.lt hr
  have q0 := hP.lo0
  have q1 := hP.hi1
  have q2 := borderL_len (hi := hi) hr q0 (by omega)
  obtain ⟨bt1, bt2⟩ := border_two hr hP
  have hm := hP.mem hr
  have b1 : 1 ≤ acr W s := by obtain ⟨h1, h2, h3, h4, h5, h6⟩ := rightB_true.1 hr; exact (acr_bd W s h5 h6 h1 h2).1
  have n1 := beside_once b1 hm.2
  have n2 := beside_once b1 hm.1
  obtain ⟨flat, hkth⟩ := kth_of hr hP
  have l1 := besideL_len W H s lo
  have l2 := besideL_len W H s hi
  have l3 : 0 < (besideL W H s lo).length := List.length_pos_of_mem hm.1
  have l4 : 0 < (besideL W H s hi).length := List.length_pos_of_mem hm.2
  have BS1 := hide (fun w => Beside_yes W H s lo w hr q0 (by omega))
  have BS2 := hide (fun w => Beside_yes W H s hi w hr (by omega) q1)
  have HST := hide hstep
  have HOC := hide hofc
  have HON := hide hofn
  have BT1 := hide bt1
  have BT2 := hide bt2
  have HU := hide huni
  have HKT := hide hkth
  clear hstep hofc hofn bt1 bt2 huni hkth hm hP b1 hi0
  have hne1 : (lo == hi) = false := by rw [beq_eq_false_iff_ne]; omega
  have hne2 : (hi == lo) = false := by rw [beq_eq_false_iff_ne]; omega
  generalize borderL W H s lo hi = L at *
  generalize besideL W H s lo = A at *
  generalize besideL W H s hi = B at *
  have hLL : (L == L) = true := beq_self_eq_true L
  have d1 : 0 ≤ dir := by omega
  have d2 : dir ≤ 3 := by omega
  have HD := hide hd
  clear hd
  go_enter Try.func8, Try.ntmps8
  go_upto_region 10 with (first
    | (go_at_call 26; refine (small11_any _ _ _ _).mono ?_; rintro e w1 ⟨rfl, hb1⟩; obtain ⟨hc1, hf1⟩ := hb1.cells; have hz1 := hb1.size; (repeat (first | rw [World.size_alloc] at hz1 | rw [World.size_drew] at hz1)); have z1_0 : w.heap.size < w1.heap.size := (by omega); have z1_1 : w.heap.size + 1 < w1.heap.size := (by omega))
    | (go_at_call 35; refine (HST.out _).mono ?_; rintro e w2 ⟨rfl, hb2⟩; obtain ⟨hc2, hf2⟩ := hb2.cells; have hz2 := hb2.size; (repeat (first | rw [World.size_alloc] at hz2 | rw [World.size_drew] at hz2)); have z2_0 : w.heap.size < w2.heap.size := (by omega); have z2_1 : w.heap.size + 1 < w2.heap.size := (by omega))
    | (go_at_call_of 20 (Value.agg #[.int .i64 x, .int .i64 y]); refine (HOC.out _).mono ?_; rintro e w3 ⟨rfl, hb3⟩; obtain ⟨hc3, hf3⟩ := hb3.cells; have hz3 := hb3.size; (repeat (first | rw [World.size_alloc] at hz3 | rw [World.size_drew] at hz3)); have z3_0 : w.heap.size < w3.heap.size := (by omega); have z3_1 : w.heap.size + 1 < w3.heap.size := (by omega); have z3_2 : w2.heap.size < w3.heap.size := (by omega))
    | (go_at_call 20; refine (HON.out _).mono ?_; rintro e w4 ⟨rfl, hb4⟩; obtain ⟨hc4, hf4⟩ := hb4.cells; have hz4 := hb4.size; (repeat (first | rw [World.size_alloc] at hz4 | rw [World.size_drew] at hz4)); have z4_0 : w.heap.size < w4.heap.size := (by omega); have z4_1 : w.heap.size + 1 < w4.heap.size := (by omega); have z4_2 : w2.heap.size < w4.heap.size := (by omega)))
  have hx14 : Ext w1 w4 := (by (with_reducible (repeat' (first | exact Ext.refl _ | assumption | refine Ext.drew ?_ | refine Ext.drewN ?_ _ | refine Ext.alloc ?_ _ | refine Ext.setCell ?_ ?_ _ | refine Ext.trans ?_ (by assumption)))); all_goals (first | (simp; done) | (simp; omega)))
  have m0 : w4.cell? ⟨w.heap.size, 0, none⟩ = some (.int .i64 W) := by rw [hx14.cell (p := ⟨w.heap.size, 0, none⟩) z1_0, hc1 _ _ (by simp; omega)]; simp [go_sem]
  have m1 : w4.cell? ⟨w.heap.size, 1, none⟩ = some (.int .i64 H) := by rw [hx14.cell (p := ⟨w.heap.size, 1, none⟩) z1_0, hc1 _ _ (by simp; omega)]; simp [go_sem]
  have m2 : w4.cell? ⟨w.heap.size, 2, none⟩ = some (.int .i64 s) := by rw [hx14.cell (p := ⟨w.heap.size, 2, none⟩) z1_0, hc1 _ _ (by simp; omega)]; simp [go_sem]
  have hx4 : Ext w w4 := (by (with_reducible (repeat' (first | exact Ext.refl _ | assumption | refine Ext.drew ?_ | refine Ext.drewN ?_ _ | refine Ext.alloc ?_ _ | refine Ext.setCell ?_ ?_ _ | refine Ext.trans ?_ (by assumption)))); all_goals (first | (simp; done) | (simp; omega)))
  clear hx14
  go_wp2_with fail
  refine (BT2.out _).mono ?_
  rintro e w5 ⟨v5, rfl, hb5, hv5⟩
  obtain ⟨g5, c5, rfl, hg5, hz5'⟩ := hv5.pos (by omega)
  have HV5 := hide hv5
  clear hv5
  obtain ⟨hc5, hf5⟩ := hb5.cells; have hz5 := hb5.size; (repeat (first | rw [World.size_alloc] at hz5 | rw [World.size_drew] at hz5)); have z5_0 : w.heap.size < w5.heap.size := (by omega); have z5_1 : w.heap.size + 1 < w5.heap.size := (by omega); have z5_2 : w2.heap.size < w5.heap.size := (by omega)
  go_wp2_with fail
  refine (BT1.out _).mono ?_
  rintro e w6 ⟨v6, rfl, hb6, hv6⟩
  obtain ⟨g6, c6, rfl, hg6, hz6'⟩ := hv6.pos (by omega)
  have HV6 := hide hv6
  clear hv6
  obtain ⟨hc6, hf6⟩ := hb6.cells; have hz6 := hb6.size; (repeat (first | rw [World.size_alloc] at hz6 | rw [World.size_drew] at hz6)); have z6_0 : w.heap.size < w6.heap.size := (by omega); have z6_1 : w.heap.size + 1 < w6.heap.size := (by omega); have z6_2 : w2.heap.size < w6.heap.size := (by omega); have z6_3 : g5 < w6.heap.size := (by omega)
  go_wp2_with fail
  refine (BS2.out _).mono ?_
  rintro e w7 ⟨v7, rfl, hb7, hv7⟩
  have HV7 := hide hv7
  clear hv7
  obtain ⟨hc7, hf7⟩ := hb7.cells; have hz7 := hb7.size; (repeat (first | rw [World.size_alloc] at hz7 | rw [World.size_drew] at hz7)); have z7_0 : w.heap.size < w7.heap.size := (by omega); have z7_1 : w.heap.size + 1 < w7.heap.size := (by omega); have z7_2 : w2.heap.size < w7.heap.size := (by omega); have z7_3 : g5 < w7.heap.size := (by omega); have z7_4 : g6 < w7.heap.size := (by omega)
  go_wp2_with fail
  refine (BS1.out _).mono ?_
  rintro e w8 ⟨v8, rfl, hb8, hv8⟩
  have HV8 := hide hv8
  clear hv8
  obtain ⟨hc8, hf8⟩ := hb8.cells; have hz8 := hb8.size; (repeat (first | rw [World.size_alloc] at hz8 | rw [World.size_drew] at hz8)); have z8_0 : w.heap.size < w8.heap.size := (by omega); have z8_1 : w.heap.size + 1 < w8.heap.size := (by omega); have z8_2 : w2.heap.size < w8.heap.size := (by omega); have z8_3 : g5 < w8.heap.size := (by omega); have z8_4 : g6 < w8.heap.size := (by omega)
  go_wp2_with fail
  have hx78 : Ext w7 w8 := hb8
  have hx68 : Ext w6 w8 := Ext.trans hb7 hx78
  have hx58 : Ext w5 w8 := Ext.trans hb6 hx68
  have R5 := hide (HV5.out.reads.ext hx58)
  refine (pairs11_any _ _ L L _ (by omega) (by omega) R5.out (HV6.out.reads.ext hx68)).mono ?_
  rw [hLL]
  rintro e w9 ⟨rfl, hb9⟩
  obtain ⟨hc9, hf9⟩ := hb9.cells; have hz9 := hb9.size; (repeat (first | rw [World.size_alloc] at hz9 | rw [World.size_drew] at hz9)); have z9_0 : w.heap.size < w9.heap.size := (by omega); have z9_1 : w.heap.size + 1 < w9.heap.size := (by omega); have z9_2 : w2.heap.size < w9.heap.size := (by omega); have z9_3 : g5 < w9.heap.size := (by omega); have z9_4 : g6 < w9.heap.size := (by omega)
  go_wp2_with fail
  refine (times_any _ _ B _ (by omega) (by omega) ((HV7.out.reads.ext hx78).ext hb9)).mono ?_
  rintro e w10 ⟨rfl, hb10⟩
  rw [n1]
  obtain ⟨hc10, hf10⟩ := hb10.cells; have hz10 := hb10.size; (repeat (first | rw [World.size_alloc] at hz10 | rw [World.size_drew] at hz10)); have z10_0 : w.heap.size < w10.heap.size := (by omega); have z10_1 : w.heap.size + 1 < w10.heap.size := (by omega); have z10_2 : w2.heap.size < w10.heap.size := (by omega); have z10_3 : g5 < w10.heap.size := (by omega); have z10_4 : g6 < w10.heap.size := (by omega)
  go_wp2_with fail
  refine (times_any _ _ A _ (by omega) (by omega) ((HV8.out.reads.ext hb9).ext hb10)).mono ?_
  rintro e w11 ⟨rfl, hb11⟩
  rw [n2]
  obtain ⟨hc11, hf11⟩ := hb11.cells; have hz11 := hb11.size; (repeat (first | rw [World.size_alloc] at hz11 | rw [World.size_drew] at hz11)); have z11_0 : w.heap.size < w11.heap.size := (by omega); have z11_1 : w.heap.size + 1 < w11.heap.size := (by omega); have z11_2 : w2.heap.size < w11.heap.size := (by omega); have z11_3 : g5 < w11.heap.size := (by omega); have z11_4 : g6 < w11.heap.size := (by omega)
  go_upto_region 19 with fail
  have hx411 : Ext w4 w11 := Ext.trans hb5 (Ext.trans hb6 (Ext.trans hb7 (Ext.trans hb8 (Ext.trans hb9 (Ext.trans hb10 hb11)))))
  have hxw : Ext w w11 := hx4.trans hx411
  have f0 := (hx411.cell (p := ⟨w.heap.size, 0, none⟩) z4_0).trans m0
  have f1 := (hx411.cell (p := ⟨w.heap.size, 1, none⟩) z4_0).trans m1
  have f2 := (hx411.cell (p := ⟨w.heap.size, 2, none⟩) z4_0).trans m2
  have R11 := hide ((R5.out.ext hb9).ext (Ext.trans hb10 hb11))
  have z11 : g5 < w11.heap.size := z11_3
  have z11' : w.heap.size < w11.heap.size := z11_0
  clear hx58 hx68 hx78 R5
  go_cut [177] (fun s177 wx => s177 = .bool true ∧ wx = w11.alloc (.cells #[.int .i64 x, .int .i64 y, .int .i64 nx, .int .i64 ny] 74))
  case first =>
    rcases HD.out with rfl | rfl
    all_goals
      go_wp2
      go_meet
      exact ⟨rfl, rfl⟩
  case rest =>
    obtain ⟨rfl, rfl⟩ := hcut
    go_upto_region 21 with fail
    clear m0 m1 m2 hx4 hx411 hc1 hf1 hz1 hb1 hc2 hf2 hz2 hb2 hc3 hf3 hz3 hb3 hc4 hf4 hz4 hb4 hc5 hf5 hz5 hb5 hc6 hf6 hz6 hb6 hc7 hf7 hz7 hb7 hc8 hf8 hz8 hb8 hc9 hf9 hz9 hb9 hc10 hf10 hz10 hb10 hc11 hf11 hz11 hb11 z1_0 z1_1 z2_0 z2_1 z3_0 z3_1 z3_2 z4_0 z4_1 z4_2 HV5 HV6 HV7 HV8 HST HOC HON BT1 BT2 BS1 BS2 n1 n2 l1 l2 l3 l4 hLL
    obtain ⟨w12, hw12⟩ : ∃ w12, w12 = w11.alloc (.cells #[.int .i64 nx, .int .i64 ny, .int .i64 x, .int .i64 y] 74) := ⟨_, rfl⟩
    have hxw12 : Ext w w12 := by rw [hw12]; exact hxw.alloc _
    have hx12 : Ext w11 w12 := by rw [hw12]; exact (Ext.refl _).alloc _
    have pb0 : w12.cell? ⟨w11.heap.size, 0, none⟩ = some (.int .i64 nx) := by rw [hw12]; simp [go_sem]
    have pb1 : w12.cell? ⟨w11.heap.size, 1, none⟩ = some (.int .i64 ny) := by rw [hw12]; simp [go_sem]
    have pb2 : w12.cell? ⟨w11.heap.size, 2, none⟩ = some (.int .i64 x) := by rw [hw12]; simp [go_sem]
    have pb3 : w12.cell? ⟨w11.heap.size, 3, none⟩ = some (.int .i64 y) := by rw [hw12]; simp [go_sem]
    have zp : w11.heap.size < w12.heap.size := by rw [hw12]; simp
    have R12 := hide (R11.out.ext hx12)
    have F0 := (hx12.cell (p := ⟨w.heap.size, 0, none⟩) z11').trans f0
    have F1 := (hx12.cell (p := ⟨w.heap.size, 1, none⟩) z11').trans f1
    have F2 := (hx12.cell (p := ⟨w.heap.size, 2, none⟩) z11').trans f2
    clear f0 f1 f2 R11 hxw hx12
    rw [← hw12]
    clear hw12
    go_wp2
    go_loopw [21, 22] (fun there k wr => ∃ j : Nat, j ≤ L.length ∧ k = .int .i64 j ∧ there = .int .i64 (aft k0 j) ∧ Ext w12 wr) (fun _ k _ => L.length - (intOf k).toNat)
    case atStart => exact ⟨0, Nat.zero_le _, rfl, rfl, Ext.refl _⟩
    case round => as_aux_lemma =>
      obtain ⟨j, hj, rfl, rfl, hext⟩ := hrel
      have hz := hext.size
      have zr0 : w.heap.size < wr.heap.size := by omega
      have zr1 : g5 < wr.heap.size := by omega
      have zr2 : w11.heap.size < wr.heap.size := by omega
      have G0 := (hext.cell (p := ⟨w.heap.size, 0, none⟩) (by simp; omega)).trans F0
      have G1 := (hext.cell (p := ⟨w.heap.size, 1, none⟩) (by simp; omega)).trans F1
      have G2 := (hext.cell (p := ⟨w.heap.size, 2, none⟩) (by simp; omega)).trans F2
      have P0 := (hext.cell (p := ⟨w11.heap.size, 0, none⟩) zp).trans pb0
      have P1 := (hext.cell (p := ⟨w11.heap.size, 1, none⟩) zp).trans pb1
      have P2 := (hext.cell (p := ⟨w11.heap.size, 2, none⟩) zp).trans pb2
      have P3 := (hext.cell (p := ⟨w11.heap.size, 3, none⟩) zp).trans pb3
      by_cases hlt' : j < L.length
      · obtain ⟨r, hjr⟩ : ∃ r, L[j]? = some r := ⟨_, List.getElem?_eq_getElem hlt'⟩
        have R := R12.out.ext hext
        obtain ⟨c1, c2, c3, c4⟩ := R.pair_at hjr
        obtain ⟨K1, K2, K3, K4, K5, K6, K7⟩ := HKT.out j r hjr
        have hU := HU.out j r hjr
        obtain ⟨⟨u1, v1⟩, u2, v2⟩ := r
        simp only at c1 c2 c3 c4 K1 K2 K3 K4 K5 K6
        have hq := fun w => eq_pair ((u1, v1), (u2, v2)) ((nx, ny), (x, y)) w
        have hq1 := fun w => eq_cell (u1 + 1, v1) (u2, v2) w
        have hq2 := fun w => eq_cell (u1, v1 + 1) (u2, v2) w
        simp only at hq hq1 hq2
        have s1 := step_in K1
        have hOA := hide (fun w => of_yes W H s u1 v1 w hr K1)
        have hOB := hide (fun w => of_yes W H s u2 v2 w hr K2)
        rw [K3] at hOA
        rw [K4] at hOB
        have hS1 : ∀ w, Calls Try.prog 35 #[.agg #[.int .i64 u1, .int .i64 v1], .int .i64 1] w fun e w' => e = .returned (.agg #[.int .i64 (u1 + 1), .int .i64 v1]) ∧ Ext w w' := fun w => rStep_any u1 v1 1 w s1.1 s1.2
        have hS2 : ∀ w, Calls Try.prog 35 #[.agg #[.int .i64 u1, .int .i64 v1], .int .i64 2] w fun e w' => e = .returned (.agg #[.int .i64 u1, .int .i64 (v1 + 1)]) ∧ Ext w w' := fun w => rStep_any u1 v1 2 w s1.1 s1.2
        have HS1 := hide hS1
        have HS2 := hide hS2
        have HK7 := hide K7
        clear s1 hS1 hS2 K7 K1 K2 K3 K4
        have hpb : pairB ((u1, v1), (u2, v2)) ((nx, ny), (x, y)) = decide (j = k0) := by rw [pairB_eq, decide_eq_decide]; exact hU
        clear hU
        have hab := aft_bd k0 j
        have HP := hide hpb
        clear hpb
        go_wp2
        go_quiet (fail)
        go_upto_if 192 with fail
        go_cut [21] (fun s21 wx => s21 = .int .i64 (aft k0 (j + 1)) ∧ wx = wr.drewN nq)
        case first => as_aux_lemma =>
          have hp := HP.out
          clear HP
          cases hjk : decide (j = k0)
          · rw [hjk] at hp
            have HA := hide (aft_miss (of_decide_eq_false hjk))
            clear hjk
            go_wp2
            all_goals first
              | (go_meet; refine ⟨?_, rfl⟩; rw [HA.out]; done)
              | (exfalso; have h1 : pairB ((u1, v1), (u2, v2)) ((nx, ny), (x, y)) = true := by assumption
                 have h2 : pairB ((u1, v1), (u2, v2)) ((nx, ny), (x, y)) = false := by assumption
                 rw [h1] at h2; cases h2)
          · rw [hjk] at hp
            have HA := hide (aft_hit (of_decide_eq_true hjk))
            clear hjk
            go_wp2
            all_goals first
              | (go_meet; refine ⟨?_, rfl⟩; rw [HA.out]; done)
              | (exfalso; have h1 : pairB ((u1, v1), (u2, v2)) ((nx, ny), (x, y)) = true := by assumption
                 have h2 : pairB ((u1, v1), (u2, v2)) ((nx, ny), (x, y)) = false := by assumption
                 rw [h1] at h2; cases h2)
        case rest => as_aux_lemma =>
          obtain ⟨rfl, rfl⟩ := hcut
          obtain ⟨wq, hwq⟩ : ∃ wq, wq = wr.drewN nq := ⟨_, rfl⟩
          have E0 : Ext wr wq := by rw [hwq]; exact (Ext.refl _).drewN _
          rw [← hwq]
          clear hwq hq hab HP
          obtain ⟨hcq, hfq⟩ := E0.cells
          have hzq := E0.size
          have zq0 : w.heap.size < wq.heap.size := by omega
          have zq1 : g5 < wq.heap.size := by omega
          go_wp2
          go_region_held3 (fun W => (∀ b o, b < wq.heap.size → W.cell? ⟨b, o, none⟩ = wq.cell? ⟨b, o, none⟩) ∧ Ext wq W) (first | with_reducible exact pr_start _ | exact pr_of (by (with_reducible (repeat' (first | exact Ext.refl _ | assumption | refine Ext.drew ?_ | refine Ext.drewN ?_ _ | refine Ext.alloc ?_ _ | refine Ext.setCell ?_ ?_ _ | refine Ext.trans ?_ (by assumption)))); all_goals (first | (simp; done) | (simp; omega))))
            (first | (go_at_call 20; refine (hOA.out _).mono ?_; rintro e w13 ⟨rfl, hb13⟩))
          rename_i hS13
          obtain ⟨hc13, hx13⟩ := hS13
          clear hb13
          have hz13 := hx13.size
          have z13_0 : w.heap.size < w13.heap.size := by omega
          have z13_1 : g5 < w13.heap.size := by omega
          go_wp2
          go_region_held3 (fun W => (∀ b o, b < w13.heap.size → W.cell? ⟨b, o, none⟩ = w13.cell? ⟨b, o, none⟩) ∧ Ext w13 W) (first | with_reducible exact pr_start _ | exact pr_of (by (with_reducible (repeat' (first | exact Ext.refl _ | assumption | refine Ext.drew ?_ | refine Ext.drewN ?_ _ | refine Ext.alloc ?_ _ | refine Ext.setCell ?_ ?_ _ | refine Ext.trans ?_ (by assumption)))); all_goals (first | (simp; done) | (simp; omega))))
            (first | (go_at_call 20; refine (hOB.out _).mono ?_; rintro e w14 ⟨rfl, hb14⟩))
          rename_i hS14
          obtain ⟨hc14, hx14⟩ := hS14
          clear hb14
          have hz14 := hx14.size
          have z14_0 : w.heap.size < w14.heap.size := by omega
          have z14_1 : g5 < w14.heap.size := by omega
          go_wp2
          go_region_held3 (fun W => (∀ b o, b < w14.heap.size → W.cell? ⟨b, o, none⟩ = w14.cell? ⟨b, o, none⟩) ∧ Ext w14 W) (first | with_reducible exact pr_start _ | exact pr_of (by (with_reducible (repeat' (first | exact Ext.refl _ | assumption | refine Ext.drew ?_ | refine Ext.drewN ?_ _ | refine Ext.alloc ?_ _ | refine Ext.setCell ?_ ?_ _ | refine Ext.trans ?_ (by assumption)))); all_goals (first | (simp; done) | (simp; omega))))
            (first | (go_at_call 35; refine (HS1.out _).mono ?_; rintro e w15 ⟨rfl, hb15⟩))
          rename_i hS15
          obtain ⟨hc15, hx15⟩ := hS15
          clear hb15
          have hz15 := hx15.size
          have z15_0 : w.heap.size < w15.heap.size := by omega
          have z15_1 : g5 < w15.heap.size := by omega
          go_wp2
          go_region_held3 (fun W => (∀ b o, b < w15.heap.size → W.cell? ⟨b, o, none⟩ = w15.cell? ⟨b, o, none⟩) ∧ Ext w15 W) (first | with_reducible exact pr_start _ | exact pr_of (by (with_reducible (repeat' (first | exact Ext.refl _ | assumption | refine Ext.drew ?_ | refine Ext.drewN ?_ _ | refine Ext.alloc ?_ _ | refine Ext.setCell ?_ ?_ _ | refine Ext.trans ?_ (by assumption)))); all_goals (first | (simp; done) | (simp; omega))))
            (first | (go_at_call 35; refine (HS2.out _).mono ?_; rintro e w16 ⟨rfl, hb16⟩))
          rename_i hS16
          obtain ⟨hc16, hx16⟩ := hS16
          clear hb16
          have hz16 := hx16.size
          have z16_0 : w.heap.size < w16.heap.size := by omega
          have z16_1 : g5 < w16.heap.size := by omega
          have hgt : decide (hi < lo) = false := decide_eq_false (by omega)
          have hgt' : ¬ hi < lo := by omega
          have hsum : (lo + hi != hi + lo) = false := by simp [Int.add_comm]
          have hext16 : Ext w12 w16 := hext.trans (E0.trans (hx13.trans (hx14.trans (hx15.trans hx16))))
          cases hjz : decide (0 < j)
          · as_aux_lemma =>
            have hj0 : j = 0 := by simpa using hjz
            subst hj0
            clear hjz
            cases flat
            all_goals
              go_wp2
              go_quiet (fail)
              go_wp2
              go_roundw
              case rel => exact ⟨0 + 1, by omega, by go_num, rfl, hext16.drewN _⟩
              case measure => simp [intOf]; omega
          · as_aux_lemma =>
            obtain ⟨j', hj'⟩ : ∃ j', j = j' + 1 := ⟨j - 1, by simp at hjz; omega⟩
            obtain ⟨t, hjt⟩ : ∃ t, L[j']? = some t := ⟨_, List.getElem?_eq_getElem (by omega)⟩
            obtain ⟨b1, b2, b3, b4⟩ := R.pair_at hjt
            have k7 := HK7.out j' t hj' hjt
            have ji1 : IntKind.i64.wrap ((j : Int) - 1) = (j' : Int) := by rw [IntWalk.i64_in _ (by omega)]; omega
            have ji2 : (j : Int) - 1 = (j' : Int) := by omega
            have ji3 : (j' : Int) < (L.length : Int) := by omega
            have ji4 : (0 : Int) < (j : Int) := by omega
            have ji5 : 0 < j := by omega
            have ji6 : decide ((0 : Int) < (j : Int)) = true := decide_eq_true ji4
            have HJ := hide hj'
            have HJT := hide hjt
            have HJR := hide hjr
            obtain ⟨⟨t1, t2⟩, t3, t4⟩ := t
            simp only at b1 b2 b3 b4 k7
            clear hjz hj' hjt hjr HK7 HKT HU
            cases flat
            · obtain ⟨k8, k9⟩ := k7.2 rfl
              have x1 : ¬ v1 < t2 := by omega
              have y1 : decide (v1 < t2) = false := decide_eq_false x1
              have x2 : (v1 == t2) = true := by rw [beq_iff_eq]; omega
              have x3 : ¬ u1 ≤ t1 := by omega
              have y3 : decide (u1 ≤ t1) = false := decide_eq_false x3
              clear k7 k8 k9
              go_wp2
              go_quiet (fail)
              go_wp2
              go_roundw
              case rel => exact ⟨j + 1, by omega, by go_num, rfl, hext16.drewN _⟩
              case measure => simp [intOf]; omega
            · have k8 := k7.1 rfl
              have x1 : ¬ v1 < t2 := by omega
              have y1 : decide (v1 < t2) = false := decide_eq_false x1
              have x2 : (v1 == t2) = false := by rw [beq_eq_false_iff_ne]; omega
              clear k7 k8
              go_wp2
              go_quiet (fail)
              go_wp2
              go_roundw
              case rel => exact ⟨j + 1, by omega, by go_num, rfl, hext16.drewN _⟩
              case measure => simp [intOf]; omega
      · obtain rfl : j = L.length := by omega
        have haft : aft k0 L.length = 1 := by unfold aft; rw [if_pos hk0]
        go_wp2_with (first | (go_at_call 25; refine (awake11_any _).mono ?_; rintro e w13 ⟨rfl, hb13⟩; obtain ⟨hc13, hf13⟩ := hb13.cells; have hz13 := hb13.size; (repeat (first | rw [World.size_alloc] at hz13 | rw [World.size_drew] at hz13))))
        go_ret
        exact ⟨rfl, hxw12.trans (hext.trans hb13)⟩
end Go.Proofs.Ytgaeelojgoageaa
