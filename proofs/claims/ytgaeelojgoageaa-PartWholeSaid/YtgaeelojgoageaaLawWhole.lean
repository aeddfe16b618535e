/- PartWhole: for every map of up to 400 cells that may be cut so, the law returns true and leaves its argument as it was. No condition. -/
import Derived.Test.YtgaeelojgoageaaPlawB
import Derived.Test.YtgaeelojgoageaaLawNew
import Derived.Test.YtgaeelojgoageaaArgs
namespace Go.Proofs.Ytgaeelojgoageaa
open Go.RowKit Go.ChangeShapes Go.WideShapes Go.ChangeAt

set_option maxRecDepth 100000 in
theorem whole_no (W H s : Int) (w : World) (hs : smallB W H s = false) :
    Calls Try.prog 7 #[.agg #[.int .i64 W, .int .i64 H, .int .i64 s]] w fun e w' => e = .returned (.bool true) ∧ Ext w w' := by
  go_enter Try.func7, Try.ntmps7
  go_wp2_with (first
    | (go_at_call 26; refine (small11_any _ _ _ _).mono ?_; rintro e w1 ⟨rfl, hb1⟩; obtain ⟨hc1, hf1⟩ := hb1.cells; have hz1 := hb1.size; (repeat (first | rw [World.size_alloc] at hz1 | rw [World.size_drew] at hz1)); have z1_0 : w.heap.size < w1.heap.size := (by omega))
    | (go_at_call 25; refine (awake11_any _).mono ?_; rintro e w2 ⟨rfl, hb2⟩; obtain ⟨hc2, hf2⟩ := hb2.cells; have hz2 := hb2.size; (repeat (first | rw [World.size_alloc] at hz2 | rw [World.size_drew] at hz2))))
  go_ret
  exact ⟨rfl, (by (with_reducible (repeat' (first | exact Ext.refl _ | assumption | refine Ext.drew ?_ | refine Ext.drewN ?_ _ | refine Ext.alloc ?_ _ | refine Ext.setCell ?_ ?_ _ | refine Ext.trans ?_ (by assumption)))); all_goals (first | (simp; done) | (simp; omega)))⟩

set_option maxRecDepth 100000 in
set_option maxHeartbeats 2000000 in
theorem whole_yes (W H s : Int) (w : World) (hs : smallB W H s = true) :
    Calls Try.prog 7 #[.agg #[.int .i64 W, .int .i64 H, .int .i64 s]] w fun e w' => e = .returned (.bool true) ∧ Ext w w' := by
  obtain ⟨hr, hm⟩ := smallB_true.1 hs
  obtain ⟨h1, h2, h3, h4, h5, h6⟩ := rightB_true.1 hr
  have b0 := cnt_bd hr
  have b4 := cnt_small hs
  obtain ⟨N, hN⟩ : ∃ N : Nat, cnt W H s = (N : Int) := ⟨(cnt W H s).toNat, by omega⟩
  have harea := area_all hr hN
  have HAR := hide harea
  have HN := hide hN
  have hcount : ∀ w, Calls Try.prog 24 #[.agg #[.int .i64 W, .int .i64 H, .int .i64 s]] w fun e w' => e = .returned (.int .i64 (N : Int)) ∧ Ext w w' := fun w => by rw [← hN]; exact count_yes W H s w hr
  have HC := hide hcount
  have nb : N ≤ 400 := by omega
  have HM := hide hm
  clear hcount harea b0 b4 hN hm
  go_enter Try.func7, Try.ntmps7
  go_wp2_with (first
    | (go_at_call 26; refine (small11_any _ _ _ _).mono ?_; rintro e w1 ⟨rfl, hb1⟩; obtain ⟨hc1, hf1⟩ := hb1.cells; have hz1 := hb1.size; (repeat (first | rw [World.size_alloc] at hz1 | rw [World.size_drew] at hz1)); have z1_0 : w.heap.size < w1.heap.size := (by omega)))
  have c0 : w1.cell? ⟨w.heap.size, 0, none⟩ = some (.int .i64 W) := by rw [hc1 _ _ (by simp)]; simp [go_sem]
  have c1 : w1.cell? ⟨w.heap.size, 1, none⟩ = some (.int .i64 H) := by rw [hc1 _ _ (by simp)]; simp [go_sem]
  have c2 : w1.cell? ⟨w.heap.size, 2, none⟩ = some (.int .i64 s) := by rw [hc1 _ _ (by simp)]; simp [go_sem]
  have hx1 : Ext w w1 := (by (with_reducible (repeat' (first | exact Ext.refl _ | assumption | refine Ext.drew ?_ | refine Ext.drewN ?_ _ | refine Ext.alloc ?_ _ | refine Ext.setCell ?_ ?_ _ | refine Ext.trans ?_ (by assumption)))); all_goals (first | (simp; done) | (simp; omega)))
  clear hc1 hf1 hz1 hb1
  go_loopw [3, 4] (fun all id wr => ∃ k : Nat, k ≤ N ∧ id = .int .i64 k ∧ all = .int .i64 (area W H s k) ∧ Ext w1 wr) (fun _ id _ => N - (intOf id).toNat)
  case atStart => exact ⟨0, Nat.zero_le _, rfl, rfl, Ext.refl _⟩
  case round =>
    obtain ⟨k, hk, rfl, rfl, hext⟩ := hrel
    have d0 := (hext.cell (p := ⟨w.heap.size, 0, none⟩) z1_0).trans c0
    have d1 := (hext.cell (p := ⟨w.heap.size, 1, none⟩) z1_0).trans c1
    have d2 := (hext.cell (p := ⟨w.heap.size, 2, none⟩) z1_0).trans c2
    have hz := hext.size
    have zr : w.heap.size < wr.heap.size := by omega
    have ab := area_bd hr k (by have := HN.out; omega)
    by_cases hlt : k < N
    · have k0 : (0 : Int) ≤ (k : Int) := by omega
      have k1 : (k : Int) < cnt W H s := by have := HN.out; omega
      have zb := box_sz hr k0 k1
      have mb := mul_bd (a := boxW W s (k : Int)) (b := boxH W H s (k : Int)) (A := 16) (B := 16) (by omega) (by omega) (by omega) (by omega)
      have HK := hide k1
      have hfit := fits_box hr k0 k1
      have hbox : ∀ w, Calls Try.prog 21 #[.agg #[.int .i64 W, .int .i64 H, .int .i64 s], .int .i64 (k : Int)] w fun e w' => e = .returned (.tuple #[.agg #[.int .i64 (boxX W s k), .int .i64 (boxY W s k), .int .i64 (boxW W s k), .int .i64 (boxH W H s k)], .int .i64 0]) ∧ Ext w w' := fun w => Box_yes W H s k w hr k0 k1
      have HB := hide hbox
      have HS := hide (area_succ W H s k)
      have i1 : InI W := by unfold InI; omega
      have i2 : InI H := by unfold InI; omega
      have I1 := hide i1
      have I2 := hide i2
      have bW : boxW W s (k : Int) ≤ s := by unfold boxW; omega
      have bH : boxH W H s (k : Int) ≤ s := by unfold boxH; omega
      have km : IntKind.i64.wrap (boxW W s (k : Int) * boxH W H s (k : Int)) = boxW W s (k : Int) * boxH W H s (k : Int) := IntWalk.i64_in _ (by omega)
      clear hbox k1 i1 i2
      go_wp2_with (first
        | (go_at_call 24; refine (HC.out _).mono ?_; rintro e w2 ⟨rfl, hb2⟩; obtain ⟨hc2, hf2⟩ := hb2.cells; have hz2 := hb2.size; (repeat (first | rw [World.size_alloc] at hz2 | rw [World.size_drew] at hz2)); have z2_0 : w.heap.size < w2.heap.size := (by omega))
        | (go_at_call 21; refine (HB.out _).mono ?_; rintro e w3 ⟨rfl, hb3⟩; obtain ⟨hc3, hf3⟩ := hb3.cells; have hz3 := hb3.size; (repeat (first | rw [World.size_alloc] at hz3 | rw [World.size_drew] at hz3)); have z3_0 : w.heap.size < w3.heap.size := (by omega))
        | (go_at_call 33; refine (rFits_any _ _ _ _ _ _ _ I1.out I2.out).mono ?_; rintro e w4 ⟨rfl, hb4⟩; obtain ⟨hc4, hf4⟩ := hb4.cells; have hz4 := hb4.size; (repeat (first | rw [World.size_alloc] at hz4 | rw [World.size_drew] at hz4)); have z4_0 : w.heap.size < w4.heap.size := (by omega); have z4_1 : w3.heap.size < w4.heap.size := (by omega)))
      go_roundw
      case rel => exact ⟨k + 1, by omega, by go_num, by rw [HS.out], (by (with_reducible (repeat' (first | exact Ext.refl _ | assumption | refine Ext.drew ?_ | refine Ext.drewN ?_ _ | refine Ext.alloc ?_ _ | refine Ext.setCell ?_ ?_ _ | refine Ext.trans ?_ (by assumption)))); all_goals (first | (simp; done) | (simp; omega)))⟩
      case measure => simp [intOf]; omega
    · obtain rfl : k = N := by omega
      have har := HAR.out
      rw [har] at ab ⊢
      clear har
      have kwh : IntKind.i64.wrap (W * H) = W * H := IntWalk.i64_in _ (by have := HM.out; omega)
      go_wp2_with (first
        | (go_at_call 24; refine (HC.out _).mono ?_; rintro e w2 ⟨rfl, hb2⟩; obtain ⟨hc2, hf2⟩ := hb2.cells; have hz2 := hb2.size; (repeat (first | rw [World.size_alloc] at hz2 | rw [World.size_drew] at hz2)); have z2_0 : w.heap.size < w2.heap.size := (by omega)))
      obtain ⟨Hn, hHn⟩ : ∃ n : Nat, H = (n : Int) := ⟨H.toNat, by omega⟩
      obtain ⟨Wn, hWn⟩ : ∃ n : Nat, W = (n : Int) := ⟨W.toNat, by omega⟩
      have HHn := hide hHn
      have HWn := hide hWn
      clear hHn hWn
      have e0 := (hb2.cell (p := ⟨w.heap.size, 0, none⟩) zr).trans d0
      have e1 := (hb2.cell (p := ⟨w.heap.size, 1, none⟩) zr).trans d1
      have e2 := (hb2.cell (p := ⟨w.heap.size, 2, none⟩) zr).trans d2
      have hx2 : Ext w w2 := (hx1.trans hext).trans hb2
      clear d0 d1 d2 hb2 hc2 hf2 hz2 hext zr hz c0 c1 c2 z1_0 hx1
      go_loopw [7] (fun y wr => ∃ j : Nat, j ≤ Hn ∧ y = .int .i64 j ∧ Ext w2 wr) (fun y _ => Hn - (intOf y).toNat)
      case atStart => exact ⟨0, Nat.zero_le _, rfl, Ext.refl _⟩
      case round =>
        obtain ⟨j, hj, rfl, hext⟩ := hrel
        have f0 := (hext.cell (p := ⟨w.heap.size, 0, none⟩) z2_0).trans e0
        have f1 := (hext.cell (p := ⟨w.heap.size, 1, none⟩) z2_0).trans e1
        have f2 := (hext.cell (p := ⟨w.heap.size, 2, none⟩) z2_0).trans e2
        have hz := hext.size
        by_cases hlt : j < Hn
        · have hyH : (j : Int) < H := by have := HHn.out; omega
          obtain ⟨wo, rfl⟩ : ∃ wo : World, wo = wr := ⟨_, rfl⟩
          have zo : w.heap.size < wo.heap.size := by omega
          go_wp2
          go_loopw [8] (fun x wi => ∃ i : Nat, i ≤ Wn ∧ x = .int .i64 i ∧ Ext wo wi) (fun x _ => Wn - (intOf x).toNat)
          case atStart => exact ⟨0, Nat.zero_le _, rfl, Ext.refl _⟩
          case round =>
            obtain ⟨i, hi, rfl, hext'⟩ := hrel
            have g0 := (hext'.cell (p := ⟨w.heap.size, 0, none⟩) zo).trans f0
            have g1 := (hext'.cell (p := ⟨w.heap.size, 1, none⟩) zo).trans f1
            have g2 := (hext'.cell (p := ⟨w.heap.size, 2, none⟩) zo).trans f2
            have hz' := hext'.size
            have zi : w.heap.size < wr.heap.size := by omega
            by_cases hlt' : i < Wn
            · have hxW : (i : Int) < W := by have := HWn.out; omega
              have hin : inB W H i j = true := inB_true.2 ⟨by omega, by omega, by omega, by omega, by omega, by omega, by omega, by omega⟩
              have ob := ofN_bd hr hin
              have hhas : hasB (boxX W s (ofN W s i j)) (boxY W s (ofN W s i j)) (boxW W s (ofN W s i j)) (boxH W H s (ofN W s i j)) i j = true := (hasP_box hr hin ob.1 ob.2).2 rfl
              have bb := box_bd hr ob.1 ob.2
              have hbox : ∀ w, Calls Try.prog 21 #[.agg #[.int .i64 W, .int .i64 H, .int .i64 s], .int .i64 (ofN W s i j)] w fun e w' => e = .returned (.tuple #[.agg #[.int .i64 (boxX W s (ofN W s i j)), .int .i64 (boxY W s (ofN W s i j)), .int .i64 (boxW W s (ofN W s i j)), .int .i64 (boxH W H s (ofN W s i j))], .int .i64 0]) ∧ Ext w w' := fun w => Box_yes W H s _ w hr ob.1 ob.2
              have HB := hide hbox
              have i1 : InI (i : Int) := by unfold InI; omega
              have i2 : InI (j : Int) := by unfold InI; omega
              have I1 := hide i1
              have I2 := hide i2
              have B1 := hide bb.1
              have B2 := hide bb.2.2.1
              clear hbox i1 i2 bb
              go_wp2_with (first
                | (go_at_call 20; refine (of_yes _ _ _ _ _ _ hr hin).mono ?_; rintro e w3 ⟨rfl, hb3⟩; obtain ⟨hc3, hf3⟩ := hb3.cells; have hz3 := hb3.size; (repeat (first | rw [World.size_alloc] at hz3 | rw [World.size_drew] at hz3)); have z3_0 : w.heap.size < w3.heap.size := (by omega); have z3_1 : wr.heap.size < w3.heap.size := (by omega))
                | (go_at_call 21; refine (HB.out _).mono ?_; rintro e w4 ⟨rfl, hb4⟩; obtain ⟨hc4, hf4⟩ := hb4.cells; have hz4 := hb4.size; (repeat (first | rw [World.size_alloc] at hz4 | rw [World.size_drew] at hz4)); have z4_0 : w.heap.size < w4.heap.size := (by omega); have z4_1 : wr.heap.size < w4.heap.size := (by omega))
                | (go_at_call 34; refine (rHas_any _ _ _ _ _ _ _ B1.out B2.out I1.out I2.out).mono ?_; rintro e w5 ⟨rfl, hb5⟩; obtain ⟨hc5, hf5⟩ := hb5.cells; have hz5 := hb5.size; (repeat (first | rw [World.size_alloc] at hz5 | rw [World.size_drew] at hz5)); have z5_0 : w.heap.size < w5.heap.size := (by omega); have z5_1 : wr.heap.size < w5.heap.size := (by omega)))
              go_roundw
              case rel => exact ⟨i + 1, by omega, by go_num, (by (with_reducible (repeat' (first | exact Ext.refl _ | assumption | refine Ext.drew ?_ | refine Ext.drewN ?_ _ | refine Ext.alloc ?_ _ | refine Ext.setCell ?_ ?_ _ | refine Ext.trans ?_ (by assumption)))); all_goals (first | (simp; done) | (simp; omega)))⟩
              case measure => simp [intOf]; omega
            · have hxW : ¬ (i : Int) < W := by have := HWn.out; omega
              go_wp2
              go_roundw
              case rel => exact ⟨j + 1, by omega, by go_num, hext.trans hext'⟩
              case measure => simp [intOf]; omega
        · have hyH : ¬ (j : Int) < H := by have := HHn.out; omega
          have zr : w.heap.size < wr.heap.size := by omega
          go_wp2_with (first | (go_at_call 25; refine (awake11_any _).mono ?_; rintro e w7 ⟨rfl, hb7⟩; obtain ⟨hc7, hf7⟩ := hb7.cells; have hz7 := hb7.size; (repeat (first | rw [World.size_alloc] at hz7 | rw [World.size_drew] at hz7))))
          go_ret
          exact ⟨rfl, (by (with_reducible (repeat' (first | exact Ext.refl _ | assumption | refine Ext.drew ?_ | refine Ext.drewN ?_ _ | refine Ext.alloc ?_ _ | refine Ext.setCell ?_ ?_ _ | refine Ext.trans ?_ (by assumption)))); all_goals (first | (simp; done) | (simp; omega)))⟩

theorem partWhole_any (W H s : Int) (w : World) :
    Calls Try.prog 7 #[.agg #[.int .i64 W, .int .i64 H, .int .i64 s]] w fun e w' => e = .returned (.bool true) ∧ Ext w w' := by
  cases hs : smallB W H s
  · exact whole_no W H s w hs
  · exact whole_yes W H s w hs

set_option maxRecDepth 100000 in
theorem partWhole_lifted (os : Os) (started : os.Started) (H : Type) (enc : TypeId × Value → H) :
    ReturnsInHanded {} Try.checked os 7 .any (Rows.partWholeSpec.pre6 enc Try.prog Try.f7 Rows.partWholeRow.domain false) (Rows.partWholeSpec.post enc Try.prog Try.f7 false true false false) := by
  refine returnsInHanded_of_change (C := Try.checked) own started (by kernel_rfl) Try.func7
    (ChangeSpec.witness6 (enc := enc) (C := Try.checked) false ⟨#[], #[.agg #[.int .i64 0, .int .i64 0, .int .i64 0]], []⟩ 8 (by kernel_rfl) (by kernel_rfl) (by kernel_rfl) (by kernel_rfl)) ?_
  intro W base args ds gs before hval0 hW hcnd hsz
  have hval : ∀ (j : Nat) t v, Try.f7.params[j]? = some t → args[j]? = some v → Value.okWide Try.prog W .any base t v := hval0
  have hW' := hW
  obtain ⟨p, q, hA0, hV, rfl, hfz, hnd⟩ := hW
  have hA : DataW.TrodAll enc Try.prog W 0 (fun _ => true) true Try.f7.params.toList args.toList ds p := hA0
  rw [Try.params7] at hA hval
  obtain ⟨v0, vs0, d0, ds0, p0, q0, hargs, rfl, rfl, h0, r0⟩ := trodAll_cons hA
  obtain ⟨rfl, rfl, rfl⟩ := trodAll_nil r0
  obtain rfl : args = #[v0] := by cases args; simp_all
  obtain ⟨rfl, rfl⟩ := trodVars_none hV
  have k0 := h0
  have lt0 : ∀ x ∈ p0, x.block < W.heap.size := by obtain ⟨m, hm⟩ := k0; exact DataW.trod_lt m _ _ _ hm
  obtain ⟨W0, H0, s0, rfl, iW0, iH0, is0⟩ := open_parts (hval 0 42 v0 rfl rfl) h0
  clear hA0 hval0
  refine (partWhole_any W0 H0 s0 W).mono fun e W' ⟨he, bel⟩ => ?_
  subst he
  exact ⟨_, rfl, _, _, _, [], _, [], hW', trodAll_mk1 (shut_bool Try.underlying4 _), (trodAll_cons_mk (Below.trod laidOut (by kernel_rfl) (of_decide_eq_true (by kernel_rfl)) k0 bel lt0) trodAll_mk0), rfl, Below.frame bel _, fun h => by cases h⟩

theorem partWhole_holds : Rows.PartWholeSaid :=
  OpenClaim.holds_of_wide 7 Try.f7 rfl rfl rfl rfl rfl rfl rfl ⟨rfl, rfl, rfl, rfl, rfl⟩ rfl rfl rfl rfl rfl (by kernel_rfl) Try.func7 (by kernel_rfl)
    (of_decide_eq_true (by kernel_rfl)) (by unfold Func.isWrapper; first | (rw [if_pos (by decide +kernel)]; kernel_rfl) | (rw [if_neg (by decide +kernel)]; exact ⟨rfl, rfl⟩))
    (fun os started H enc _ => partWhole_lifted os started H enc)
#print axioms partWhole_holds
end Go.Proofs.Ytgaeelojgoageaa
