/- The walk of part's Border: where there is one. -/
import Derived.Test.YtkioohhjjdlhiaaPartB
set_option linter.all false
set_option linter.unusedVariables false
set_option linter.unusedSimpArgs false
namespace Go.Proofs.Ytkioohhjjdlhiaa
open Go.RowKit
set_option maxRecDepth 100000 in
set_option maxHeartbeats 20000000 in
theorem Border_yes (W H s a b : Int) (w : World) (hr : rightB W H s = true) (h0 : 0 ≤ a) (ha : a < cnt W H s) (h1 : 0 ≤ b) (hb : b < cnt W H s) (hn : hasI (besideL W H s (min a b)) (max a b) = true) :
    Calls Try.prog 30 #[.agg #[.int .i64 W, .int .i64 H, .int .i64 s], .int .i64 a, .int .i64 b] w (RetPairs w (borderL W H s (min a b) (max a b)) 0) := by
  have hany : [a, b].any (bad W H s) = false := by simp [bad_false h0 ha, bad_false h1 hb]
  go_enter Try.func30, Try.ntmps30
  go_upto_region 4 with (first
    | (go_at_call 37; refine (has_ok W H s _ 0 _ [a, b] _ hr hany (by simp) (by simp) (by exact two_at _ _ _ _ _ (by simp))).mono ?_; rintro e w1 ⟨rfl, hb1⟩; obtain ⟨hc1, hf1⟩ := hb1.cells; have hz1 := hb1.size; (repeat (first | rw [World.size_alloc] at hz1 | rw [World.size_drew] at hz1)); have z1_0 : w.heap.size < w1.heap.size := (by omega)))
  have hx1 : Ext w w1 := (by (with_reducible (repeat' (first | exact Ext.refl _ | assumption | refine Ext.drew ?_ | refine Ext.drewN ?_ _ | refine Ext.alloc ?_ _ | refine Ext.setCell ?_ ?_ _ | refine Ext.trans ?_ (by assumption)))); all_goals (first | (simp; done) | (simp; omega)))
  go_cut [1, 2] (fun s1 s2 wx => s1 = .int .i64 (min a b) ∧ s2 = .int .i64 (max a b) ∧ w1 = wx)
  case first =>
    go_wp2
    all_goals go_meet
    all_goals exact ⟨by congr 1; omega, by congr 1; omega, rfl⟩
  case rest =>
    obtain ⟨rfl, rfl, rfl⟩ := hcut
    have l0 : 0 ≤ min a b := by omega
    have l1 : min a b < cnt W H s := by omega
    have l2 : 0 ≤ max a b := by omega
    have l3 : max a b < cnt W H s := by omega
    generalize min a b = lo at *
    generalize max a b = hi at *
    have hlen := besideL_len W H s lo
    go_upto_region 9 with (first
      | (go_at_call 17; refine (Beside_yes W H s lo _ hr l0 l1).mono ?_; rintro e w2 ⟨v, rfl, hb2, hv⟩; have HV := hide hv; clear hv; obtain ⟨hc2, hf2⟩ := hb2.cells; have hz2 := hb2.size; (repeat (first | rw [World.size_alloc] at hz2 | rw [World.size_drew] at hz2)); have z2_0 : w.heap.size < w2.heap.size := (by omega))
      | (go_at_call 49; refine (contains_any hi _ (besideL W H s lo) _ (by omega) HV.out.reads).mono ?_; rintro e w3 ⟨rfl, hb3⟩; obtain ⟨hc3, hf3⟩ := hb3.cells; have hz3 := hb3.size; (repeat (first | rw [World.size_alloc] at hz3 | rw [World.size_drew] at hz3)); have z3_0 : w.heap.size < w3.heap.size := (by omega)))
    have hx13 : Ext w1 w3 := (by (with_reducible (repeat' (first | exact Ext.refl _ | assumption | refine Ext.drew ?_ | refine Ext.drewN ?_ _ | refine Ext.alloc ?_ _ | refine Ext.setCell ?_ ?_ _ | refine Ext.trans ?_ (by assumption)))); all_goals (first | (simp; done) | (simp; omega)))
    have hx3 : Ext w w3 := hx1.trans hx13
    have e0 : w3.cell? ⟨w.heap.size, 0, none⟩ = some (.int .i64 W) := by rw [hx13.cell (p := ⟨w.heap.size, 0, none⟩) z1_0, hc1 _ _ (by simp; omega)]; simp [go_sem]
    have e1 : w3.cell? ⟨w.heap.size, 1, none⟩ = some (.int .i64 H) := by rw [hx13.cell (p := ⟨w.heap.size, 1, none⟩) z1_0, hc1 _ _ (by simp; omega)]; simp [go_sem]
    have e2 : w3.cell? ⟨w.heap.size, 2, none⟩ = some (.int .i64 s) := by rw [hx13.cell (p := ⟨w.heap.size, 2, none⟩) z1_0, hc1 _ _ (by simp; omega)]; simp [go_sem]
    clear hx13 hn hany hb1 hc1 hf1 hx1 hb2 hc2 hf2 hb3 hc3 hf3 HV hlen z1_0 z2_0 hz1 hz2 hz3
    go_cut [12, 13] (fun s12 s13 wx => ∃ p q : Nat, s12 = .pointer (some ⟨p, 0, none⟩) ∧ s13 = .pointer (some ⟨q, 0, none⟩) ∧ p < wx.heap.size ∧ q < wx.heap.size ∧ Ext w wx ∧
      (wx.cell? ⟨p, 0, none⟩ = some (.int .i64 (boxX W s lo)) ∧ wx.cell? ⟨p, 1, none⟩ = some (.int .i64 (boxY W s lo)) ∧ wx.cell? ⟨p, 2, none⟩ = some (.int .i64 (boxW W s lo)) ∧ wx.cell? ⟨p, 3, none⟩ = some (.int .i64 (boxH W H s lo))) ∧
      wx.cell? ⟨q, 0, none⟩ = some (.int .i64 (boxX W s hi)) ∧ wx.cell? ⟨q, 1, none⟩ = some (.int .i64 (boxY W s hi)))
    case first =>
      go_region_held3 (fun W => (∀ b o, b < w3.heap.size → W.cell? ⟨b, o, none⟩ = w3.cell? ⟨b, o, none⟩) ∧ Ext w3 W) (first | with_reducible exact pr_start _ | exact pr_of (by (with_reducible (repeat' (first | exact Ext.refl _ | assumption | refine Ext.drew ?_ | refine Ext.drewN ?_ _ | refine Ext.alloc ?_ _ | refine Ext.setCell ?_ ?_ _ | refine Ext.trans ?_ (by assumption)))); all_goals (first | (simp; done) | (simp; omega))))
        (first | (go_at_call 45; refine (box_yes W H s _ _ hr (by omega) (by omega)).mono ?_; rintro e w4 ⟨rfl, hb4⟩; obtain ⟨hc4, hf4⟩ := hb4.cells; have hz4 := hb4.size; (repeat (first | rw [World.size_alloc] at hz4 | rw [World.size_drew] at hz4)); (try have zA4 := Nat.lt_of_succ_le hz4); (try have zB4 := Nat.lt_of_succ_le (Nat.le_of_succ_le hz4)); (try have zC4 : w3.heap.size < w4.heap.size := (by omega)); (try have zD4 : w3.heap.size + 1 < w4.heap.size := (by omega)); (try have zE4 : w4.heap.size ≠ w3.heap.size := (by omega)); (try have zF4 : w3.heap.size ≠ w4.heap.size := (by omega)); (try have zG4 : w3.heap.size < w4.heap.size + 1 := (by omega))))
      all_goals
        rename_i hS
        have hX := hx3.trans hS.2
        clear hS
        have ar : ∀ n : Nat, n < n + 1 + 1 := (fun n => by omega)
        go_wp2_with fail
        go_meet
        refine ⟨_, _, rfl, rfl, ?_, ?_, hX, ⟨?_, ?_, ?_, ?_⟩, ?_, ?_⟩
        all_goals first
          | (simp [go_sem, boxW, boxH]; done)
          | (simp [go_sem, boxW, boxH]; omega)
          | (simp [go_sem, boxW, boxH, *]; done)
          | (simp [go_sem, boxW, boxH, hc4, zA4, zB4]; done)
          | skip
        all_goals ((try unfold boxW); (try unfold boxH); go_simp)
    case rest =>
      clear e0 e1 e2 z3_0 hx3
      obtain ⟨p, q, rfl, rfl, hp, hq, hx, ⟨p0, p1, p2, p3⟩, q0, q1⟩ := hcut
      have hzx := hx.size
      have bl := box_bd hr l0 l1
      have bh := box_bd hr l2 l3
      have sl := box_sz hr l0 l1
      obtain ⟨h1, h2, h3, h4, h5, h6⟩ := rightB_true.1 hr
      cases hrow : (boxY W s lo == boxY W s hi)
      · have hrow' : ¬ boxY W s lo = boxY W s hi := by simpa using hrow
        have hbl : borderL W H s lo hi = lowL (boxX W s lo) (boxY W s hi) (boxW W s lo).toNat := by unfold borderL; rw [if_neg hrow']
        clear hrow'
        obtain ⟨N, hN⟩ : ∃ N : Nat, boxW W s lo = (N : Int) := ⟨(boxW W s lo).toNat, by omega⟩
        rw [hN] at sl p2 hbl
        rw [Int.toNat_natCast] at hbl
        clear hN
        have HB := hide hbl
        clear hbl
        generalize boxX W s lo = X1 at *
        generalize boxY W s hi = Y2 at *
        go_wp2
        go_loopw [11, 79] (fun out i wr => ∃ k : Nat, k ≤ N ∧ i = .int .i64 k ∧ Own pairE wr wc.heap.size 79 out (lowL X1 Y2 k) ∧ Below wc.heap.size wc wr) (fun _ i _ => N - (intOf i).toNat)
        case atStart => exact ⟨0, by omega, rfl, Own.nil _ _ _ _, Below.refl _ _⟩
        case round =>
          obtain ⟨k, hk, rfl, hown, hbel⟩ := hrel
          have HO := hide hown
          have hcr := below_cells hbel
          have hz := hbel.size
          have hlen := lowL_len X1 Y2 k
          have HS := hide (lowL_succ X1 Y2 k)
          by_cases hlt : k < N
          · clear hown
            go_wp2_with (at_builtin; refine wpList_app pairE T_pairs rfl _ _ rfl wc.heap.size _ _ (lowL X1 Y2 k) rfl HO.out ((X1 + (k : Int), Y2 - 1), (X1 + (k : Int), Y2)) _ _ rfl _ rfl rfl (by omega) (by omega) (by omega) ?_; intro g c w' hown' hbel'; have HO' := hide hown'; clear hown')
            go_roundw
            case rel => exact ⟨k + 1, by omega, by go_num, by rw [HS.out]; have h9 := HO'.out; rw [hlen] at h9; exact h9, hbel.trans hbel'⟩
            case measure => simp [intOf]; omega
          · obtain rfl : k = N := by omega
            clear hown
            go_wp2
            go_ret2
            exact ⟨_, rfl, hx.of_below hbel hx.size, by rw [HB.out]; exact HO.out.lower hx.size⟩
      · have hrow' : boxY W s lo = boxY W s hi := by simpa using hrow
        have hbl : borderL W H s lo hi = sideL (boxX W s hi) (boxY W s lo) (boxH W H s lo).toNat := by unfold borderL; rw [if_pos hrow']
        clear hrow'
        obtain ⟨N, hN⟩ : ∃ N : Nat, boxH W H s lo = (N : Int) := ⟨(boxH W H s lo).toNat, by omega⟩
        rw [hN] at sl p3 hbl
        rw [Int.toNat_natCast] at hbl
        clear hN
        have HB := hide hbl
        clear hbl
        generalize boxX W s hi = X2 at *
        generalize boxY W s lo = Y1 at *
        go_wp2
        go_loopw [11, 53] (fun out i wr => ∃ k : Nat, k ≤ N ∧ i = .int .i64 k ∧ Own pairE wr wc.heap.size 79 out (sideL X2 Y1 k) ∧ Below wc.heap.size wc wr) (fun _ i _ => N - (intOf i).toNat)
        case atStart => exact ⟨0, by omega, rfl, Own.nil _ _ _ _, Below.refl _ _⟩
        case round =>
          obtain ⟨k, hk, rfl, hown, hbel⟩ := hrel
          have HO := hide hown
          have hcr := below_cells hbel
          have hz := hbel.size
          have hlen := sideL_len X2 Y1 k
          have HS := hide (sideL_succ X2 Y1 k)
          by_cases hlt : k < N
          · clear hown
            go_wp2_with (at_builtin; refine wpList_app pairE T_pairs rfl _ _ rfl wc.heap.size _ _ (sideL X2 Y1 k) rfl HO.out ((X2 - 1, Y1 + (k : Int)), (X2, Y1 + (k : Int))) _ _ rfl _ rfl rfl (by omega) (by omega) (by omega) ?_; intro g c w' hown' hbel'; have HO' := hide hown'; clear hown')
            go_roundw
            case rel => exact ⟨k + 1, by omega, by go_num, by rw [HS.out]; have h9 := HO'.out; rw [hlen] at h9; exact h9, hbel.trans hbel'⟩
            case measure => simp [intOf]; omega
          · obtain rfl : k = N := by omega
            clear hown
            go_wp2
            go_ret2
            exact ⟨_, rfl, hx.of_below hbel hx.size, by rw [HB.out]; exact HO.out.lower hx.size⟩
end Go.Proofs.Ytkioohhjjdlhiaa
