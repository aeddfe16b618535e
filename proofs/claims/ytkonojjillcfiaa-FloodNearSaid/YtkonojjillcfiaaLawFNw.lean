/- The walk of FloodNear. -/
import Derived.Test.YtkonojjillcfiaaLawFN
namespace Go.Proofs.Ytkonojjillcfiaa
open Go.RowKit

set_option maxRecDepth 100000 in
theorem fn_far {w : World} (W H : Int) (a : Option Addr) (n c : Nat) (bx byy bw bh fx fy : Int) (hn : ¬ (n : Int) ≤ 150) :
    Calls Try.prog 11 #[.agg #[.int .i64 W, .int .i64 H, .slice a n c], .agg #[.int .i64 bx, .int .i64 byy, .int .i64 bw, .int .i64 bh], .agg #[.int .i64 fx, .int .i64 fy]] w fun e w' => e = .returned (.bool true) ∧ Ext w w' := by
  have HS := hide (fun w' => small08_any W H a n c w')
  rw [show decide ((n : Int) ≤ 150) = false by simpa using hn] at HS
  clear hn
  go_enter Try.func11, Try.ntmps11
  go_wp2_with (first
    | (go_at_call 33; refine (HS.out _).mono ?_; rintro e w1 ⟨rfl, hb1⟩; obtain ⟨hc1, hf1⟩ := hb1.cells; have hz1 := hb1.size; (repeat (first | rw [World.size_alloc] at hz1 | rw [World.size_drew] at hz1)))
    | (go_at_call 34; refine (awake08_any _).mono ?_; rintro e w2 ⟨rfl, hb2⟩))
  go_ret
  exact ⟨rfl, (by (with_reducible (repeat' (first | exact Ext.refl _ | assumption | refine Ext.drew ?_ | refine Ext.drewN ?_ _ | refine Ext.alloc ?_ _ | refine Ext.setCell ?_ ?_ _ | refine Ext.trans ?_ (by assumption)))); all_goals (first | (simp; done) | (simp; omega)))⟩

set_option maxRecDepth 100000 in
theorem fn_bad {w : World} {W H : Int} {a : Option Addr} {n : Nat} (c : Nat) (bx byy bw bh fx fy : Int) (hn : (n : Int) ≤ 150) (he : lookE W H n bx byy bw bh fx fy ≠ 0) :
    Calls Try.prog 11 #[.agg #[.int .i64 W, .int .i64 H, .slice a n c], .agg #[.int .i64 bx, .int .i64 byy, .int .i64 bw, .int .i64 bh], .agg #[.int .i64 fx, .int .i64 fy]] w fun e w' => e = .returned (.bool true) ∧ Ext w w' := by
  have HS := hide (fun w' => small08_any W H a n c w')
  rw [show decide ((n : Int) ≤ 150) = true by simpa using hn] at HS
  have H1 := hide (fun (w' : World) => fWithin_bad (w := w') W H a n c bx byy bw bh fx fy he)
  generalize lookE W H n bx byy bw bh fx fy = e1 at *
  have hb : (e1 != 0) = true := by simpa using he
  clear he hn
  go_enter Try.func11, Try.ntmps11
  go_wp2_with (first
    | (go_at_call 33; refine (HS.out _).mono ?_; rintro e w1 ⟨rfl, hb1⟩; obtain ⟨hc1, hf1⟩ := hb1.cells; have hz1 := hb1.size; (repeat (first | rw [World.size_alloc] at hz1 | rw [World.size_drew] at hz1)); have z1_0 : w.heap.size < w1.heap.size := (by omega); have z1_1 : w.heap.size + 1 < w1.heap.size := (by omega); have z1_2 : w.heap.size + 2 < w1.heap.size := (by omega))
    | (go_at_call 35; refine (H1.out _).mono ?_; rintro e w3 ⟨rfl, hb3⟩)
    | (go_at_call 34; refine (awake08_any _).mono ?_; rintro e w2 ⟨rfl, hb2⟩))
  go_ret
  exact ⟨rfl, (by (with_reducible (repeat' (first | exact Ext.refl _ | assumption | refine Ext.drew ?_ | refine Ext.drewN ?_ _ | refine Ext.alloc ?_ _ | refine Ext.setCell ?_ ?_ _ | refine Ext.trans ?_ (by assumption)))); all_goals (first | (simp; done) | (simp; omega)))⟩

set_option maxRecDepth 100000 in
set_option maxHeartbeats 1000000 in
theorem fn_ok {w : World} {W H : Int} {a : Option Addr} {l : List Int} (c : Nat) (bx byy bw bh fx fy : Int) (hr : Row16 w a l) (hu : U16s l) (hn : (l.length : Int) ≤ 150) (he : lookE W H l.length bx byy bw bh fx fy = 0) :
    Calls Try.prog 11 #[.agg #[.int .i64 W, .int .i64 H, .slice a l.length c], .agg #[.int .i64 bx, .int .i64 byy, .int .i64 bw, .int .i64 bh], .agg #[.int .i64 fx, .int .i64 fy]] w fun e w' => e = .returned (.bool true) ∧ Ext w w' := by
  have HS := hide (fun w' => small08_any W H a l.length c w')
  rw [show decide ((l.length : Int) ≤ 150) = true by simpa using hn] at HS
  have lp := landP_of he hu
  have LP := hide lp
  have H1 := hide (fun (w' : World) (hx : Ext w w') => fWithin_ok c he (hr.ext hx) hu)
  obtain ⟨hm, hl, hf, hh⟩ := lookE_ok.1 he
  have HB := hide hh
  have wh := lp.wh
  have ff := fitsR_true.1 hf
  have hin := lp.in_ hh
  have HFi := hide (fun w' => rFits_any W H bx byy bw bh w' (by unfold InI; omega) (by unfold InI; omega))
  rw [hf] at HFi
  have HHa := hide (fun (w' : World) (x y : Int) (h : -1 ≤ x ∧ x ≤ 1000 ∧ -1 ≤ y ∧ y ≤ 1000) => rHas_any bx byy bw bh x y w' ff.1 ff.2.1 (by unfold InI; omega) (by unfold InI; omega))
  have HAt := hide (fun (w' : World) (g cg base : Nat) (far : Nat → Int) (fa : FarAt w' base g cg far l.length) (x y : Int) (hx : -1 ≤ x ∧ x ≤ 1000) (hy : -1 ≤ y ∧ y ≤ 1000) => at08_any lp a c fa x y hx hy)
  obtain ⟨G, hG⟩ : ∃ G, mapNet lp = G := ⟨_, rfl⟩
  have HG : Hid (mapNet LP.out = G) := hide hG
  rw [show mapNet (landP_of he hu) = G from hG] at H1
  have n1 : 1 ≤ l.length := by have := lp.idx_lt hin; omega
  have HR := hide hr
  have HU := hide hu
  have k0 : IntKind.i64.wrap (W * H) = (l.length : Int) := by rw [hl]; exact IntWalk.i64_in _ (by omega)
  obtain ⟨n, hnn⟩ : ∃ n, l.length = n := ⟨_, rfl⟩
  have HN := hide hnn
  rw [hnn] at HS H1 HAt k0 wh n1 ⊢
  obtain ⟨ab, aoff, rfl, zab0, hcc⟩ := hr (by omega)
  have CC := hide (show ∀ j, j < l.length → (w.cell? ⟨ab, aoff + j, none⟩ = some (.int .u16 (l.getD j 0))) from fun j hj => by rw [hcc j hj, List.getD_eq_getElem?_getD, List.getElem?_eq_getElem hj]; rfl)
  clear hr hu hn he hm hl hf lp hG hnn ff hcc
  have hHas : hasB bx byy bw bh fx fy = true := hh
  clear hh
  go_enter Try.func11, Try.ntmps11
  go_wp2_with (go_at_call 33; refine (HS.out _).mono ?_; rintro e w1 ⟨rfl, hb1⟩; obtain ⟨hc1, hf1⟩ := hb1.cells; have hz1 := hb1.size; (repeat (first | rw [World.size_alloc] at hz1 | rw [World.size_drew] at hz1)); have z1_0 : w.heap.size < w1.heap.size := (by omega); have z1_1 : w.heap.size + 1 < w1.heap.size := (by omega); have z1_2 : w.heap.size + 2 < w1.heap.size := (by omega))
  refine (H1.out _ (by (with_reducible (repeat' (first | exact Ext.refl _ | assumption | refine Ext.drew ?_ | refine Ext.drewN ?_ _ | refine Ext.alloc ?_ _ | refine Ext.setCell ?_ ?_ _ | refine Ext.trans ?_ (by assumption)))); all_goals (first | (simp; done) | (simp; omega)))).mono ?_
  rintro e w2 ⟨v1, far, rfl, hb2, hv1, F1, L1⟩
  obtain ⟨hc2, hf2⟩ := hb2.cells; have hz2 := hb2.size; (repeat (first | rw [World.size_alloc] at hz2 | rw [World.size_drew] at hz2)); have z2_0 : w.heap.size < w2.heap.size := (by omega); have z2_1 : w.heap.size + 1 < w2.heap.size := (by omega); have z2_2 : w.heap.size + 2 < w2.heap.size := (by omega)
  obtain ⟨g, cg, rfl, A1⟩ := far_slice hv1 (by omega)
  have hx2 : Ext w w2 := (by (with_reducible (repeat' (first | exact Ext.refl _ | assumption | refine Ext.drew ?_ | refine Ext.drewN ?_ _ | refine Ext.alloc ?_ _ | refine Ext.setCell ?_ ?_ _ | refine Ext.trans ?_ (by assumption)))); all_goals (first | (simp; done) | (simp; omega)))
  have q0 : w2.cell? ⟨w.heap.size, 0, none⟩ = some (.int .i64 W) := by rw [hc2 _ _ z1_0, hc1 _ _ (by simp; omega)]; simp [go_sem]
  have q1 : w2.cell? ⟨w.heap.size, 1, none⟩ = some (.int .i64 H) := by rw [hc2 _ _ z1_0, hc1 _ _ (by simp; omega)]; simp [go_sem]
  have q2 : w2.cell? ⟨w.heap.size, 2, none⟩ = some (.slice (some ⟨ab, aoff, none⟩) n c) := by rw [hc2 _ _ z1_0, hc1 _ _ (by simp; omega)]; simp [go_sem]
  have q3 : w2.cell? ⟨w.heap.size + 1, 0, none⟩ = some (.int .i64 bx) := by rw [hc2 _ _ z1_1, hc1 _ _ (by simp)]; simp [go_sem]
  have q4 : w2.cell? ⟨w.heap.size + 1, 1, none⟩ = some (.int .i64 byy) := by rw [hc2 _ _ z1_1, hc1 _ _ (by simp)]; simp [go_sem]
  have q5 : w2.cell? ⟨w.heap.size + 1, 2, none⟩ = some (.int .i64 bw) := by rw [hc2 _ _ z1_1, hc1 _ _ (by simp)]; simp [go_sem]
  have q6 : w2.cell? ⟨w.heap.size + 1, 3, none⟩ = some (.int .i64 bh) := by rw [hc2 _ _ z1_1, hc1 _ _ (by simp)]; simp [go_sem]
  have q7 : w2.cell? ⟨w.heap.size + 2, 0, none⟩ = some (.int .i64 fx) := by rw [hc2 _ _ z1_2, hc1 _ _ (by simp)]; simp [go_sem]
  have q8 : w2.cell? ⟨w.heap.size + 2, 1, none⟩ = some (.int .i64 fy) := by rw [hc2 _ _ z1_2, hc1 _ _ (by simp)]; simp [go_sem]
  have zz : w.heap.size + 2 < w2.heap.size := z2_2
  have zab : ab < w2.heap.size := Nat.lt_of_lt_of_le zab0 hx2.size
  have FF := hide F1
  have LL := hide L1
  have AA := hide A1
  have HX2 := hide hx2
  have hfb := fun v => And.intro (F1.nn v) (F1.le v)
  have FB := hide hfb
  have Q := hide (show _ ∧ _ ∧ _ ∧ _ ∧ _ ∧ _ ∧ _ ∧ _ ∧ _ from ⟨q0, q1, q2, q3, q4, q5, q6, q7, q8⟩)
  have HH2 := hide (fun (w' : World) => HHa.out w' fx fy (by omega))
  rw [hHas] at HH2
  have y0 : w.heap.size < w2.heap.size := by omega
  have y1 : w.heap.size + 1 < w2.heap.size := by omega
  clear hc1 hc2 hf1 hf2 hb1 hb2 hv1 F1 L1 A1 hx2 hfb z1_0 z1_1 z1_2 z2_0 z2_1 z2_2 HS H1
  go_wp2_with (first
    | (go_at_call 44; refine (HFi.out _).mono ?_; rintro e w3 ⟨rfl, hb3⟩; obtain ⟨hc3, hf3⟩ := hb3.cells; have hz3 := hb3.size; (repeat (first | rw [World.size_alloc] at hz3 | rw [World.size_drew] at hz3)); have z3_0 : w.heap.size < w3.heap.size := (by omega); have z3_1 : w.heap.size + 1 < w3.heap.size := (by omega); have z3_2 : w.heap.size + 2 < w3.heap.size := (by omega))
    | (go_at_call 41; refine (HH2.out _).mono ?_; rintro e w4 ⟨rfl, hb4⟩))
  have h24 : Ext w2 w4 := (by (with_reducible (repeat' (first | exact Ext.refl _ | assumption | refine Ext.drew ?_ | refine Ext.drewN ?_ _ | refine Ext.alloc ?_ _ | refine Ext.setCell ?_ ?_ _ | refine Ext.trans ?_ (by assumption)))); all_goals (first | (simp; done) | (simp; omega)))
  have H24 := hide h24
  clear hb3 hb4 hc3 hf3 hz3 z3_0 z3_1 z3_2 q0 q1 q2 q3 q4 q5 q6 q7 q8 h24
  go_loopw [9] (fun i wr => ∃ yy : Nat, (yy : Int) ≤ H ∧ i = .int .i64 yy ∧ Ext w4 wr) (fun i _ => (H - intOf i).toNat)
  case atStart => exact ⟨0, by omega, rfl, Ext.refl _⟩
  case round =>
    obtain ⟨yy, hy, rfl, hext⟩ := hrel
    have HXy := hide hext
    have h2r := H24.out.trans hext
    obtain ⟨b0, b1, b2, b3, b4, b5, b6, b7, b8⟩ := Q.out
    have q1 := (h2r.cell (p := ⟨w.heap.size, 1, none⟩) y0).trans b1
    have zr := h2r.size
    have zr0 : w.heap.size < wr.heap.size := by omega
    clear b0 b1 b2 b3 b4 b5 b6 b7 b8 h2r
    by_cases hlt : (yy : Int) < H
    · go_wp2_with fail
      go_loopw [10] (fun i wx => ∃ xx : Nat, (xx : Int) ≤ W ∧ i = .int .i64 xx ∧ Ext wr wx) (fun i _ => (W - intOf i).toNat)
      case atStart => exact ⟨0, by omega, rfl, Ext.refl _⟩
      case round =>
        obtain ⟨xx, hx, rfl, hext⟩ := hrel
        have HXx := hide hext
        have h2x := (H24.out.trans HXy.out).trans hext
        obtain ⟨b0, b1, b2, b3, b4, b5, b6, b7, b8⟩ := Q.out
        have q0 := (h2x.cell (p := ⟨w.heap.size, 0, none⟩) y0).trans b0
        have q1 := (h2x.cell (p := ⟨w.heap.size, 1, none⟩) y0).trans b1
        have q2 := (h2x.cell (p := ⟨w.heap.size, 2, none⟩) y0).trans b2
        have q3 := (h2x.cell (p := ⟨w.heap.size + 1, 0, none⟩) y1).trans b3
        have q4 := (h2x.cell (p := ⟨w.heap.size + 1, 1, none⟩) y1).trans b4
        have q5 := (h2x.cell (p := ⟨w.heap.size + 1, 2, none⟩) y1).trans b5
        have q6 := (h2x.cell (p := ⟨w.heap.size + 1, 3, none⟩) y1).trans b6
        have q7 := (h2x.cell (p := ⟨w.heap.size + 2, 0, none⟩) zz).trans b7
        have q8 := (h2x.cell (p := ⟨w.heap.size + 2, 1, none⟩) zz).trans b8
        have zx := h2x.size
        have zx0 : w.heap.size < wr.heap.size := by omega
        have zx1 : w.heap.size + 1 < wr.heap.size := by omega
        have zx2 : w.heap.size + 2 < wr.heap.size := by omega
        have H2x := hide h2x
        clear b0 b1 b2 b3 b4 b5 b6 b7 b8 h2x hext zx
        by_cases hxl : (xx : Int) < W
        · have hin : 0 ≤ (xx : Int) ∧ (xx : Int) < W ∧ 0 ≤ (yy : Int) ∧ (yy : Int) < H := by omega
          have hjn := LP.out.idx_lt hin
          have hji := idx_int (W := W) (x := xx) (y := yy) (by omega) (by omega) (by omega)
          have m0 : 0 ≤ (yy : Int) * W ∧ (yy : Int) * W ≤ 65536 := by
            have h1 : (yy : Int) * W ≤ 256 * W := Int.mul_le_mul_of_nonneg_right (by omega) (by omega)
            exact ⟨Int.mul_nonneg (by omega) (by omega), by omega⟩
          have k1 : IntKind.i64.wrap ((yy : Int) * W) = (yy : Int) * W := IntWalk.i64_in _ (by omega)
          have k2 : IntKind.i64.wrap ((yy : Int) * W + (xx : Int)) = ((idxN W ((xx : Int), (yy : Int)) : Nat) : Int) := by rw [hji]; exact IntWalk.i64_in _ (by omega)
          have fw := want_far LP.out HB.out (by rw [HG.out]; exact FF.out) (by rw [HG.out]; exact LL.out) hin
          have cc0 := CC.out _ hjn
          have cc : wr.cell? ⟨ab, aoff + idxN W ((xx : Int), (yy : Int)), none⟩ = some (.int .u16 (costI l W ((xx : Int), (yy : Int)))) := (H2x.out.cell (p := ⟨ab, aoff + idxN W ((xx : Int), (yy : Int)), none⟩) zab).trans (HX2.out.cell (p := ⟨ab, aoff + idxN W ((xx : Int), (yy : Int)), none⟩) zab0 |>.trans cc0)
          have fc := ((AA.out.ext H2x.out).cell (by rw [HN.out] at hjn; exact hjn)).1
          have ckd : IntKind.u64.wrap (costI l W (xx, yy)) = costI l W (xx, yy) := by
            have := costI_bd HU.out W (xx, yy)
            unfold IntKind.wrap; simp [IntKind.bits, IntKind.signed]; omega
          have cb := costI_bd HU.out W (xx, yy)
          have zga := (AA.out.ext H2x.out).lt.2
          have zab2 : ab < wr.heap.size := Nat.lt_of_lt_of_le zab H2x.out.size
          have hq1 := fun w => eq_cell ((xx : Int), (yy : Int)) (fx, fy) w
          simp only at hq1
          have HFJ := hide fw
          rw [HN.out] at hjn
          have hko : ((idxN W ((xx : Int), (yy : Int)) : Nat) : Int) < (n : Int) := by omega
          have hkd : decide ((n : Int) ≤ ((idxN W ((xx : Int), (yy : Int)) : Nat) : Int)) = false := by simp; omega
          have hkd2 : decide (n ≤ idxN W ((xx : Int), (yy : Int))) = false := by simp; omega
          obtain ⟨cost, hcost⟩ : ∃ z, costI l W (xx, yy) = z := ⟨_, rfl⟩
          have HCO := hide hcost
          unfold wantF at fw
          rw [hcost] at fw cc ckd cb
          generalize idxN W ((xx : Int), (yy : Int)) = j at *
          clear hji m0 cc0 hcost
          have HHb := hide (fun (w' : World) => HHa.out w' (xx : Int) (yy : Int) (by omega))
          have eI : infI = 18446744073709551615 := rfl
          obtain ⟨fj, hfj⟩ : ∃ z, far j = z := ⟨_, rfl⟩
          rw [hfj] at fw fc
          have HHf := hide hHas
          have cb0 := cb.1
          clear hfj hHas k0
          by_cases hc0 : 0 < cost
          · by_cases he : ((xx : Int) = fx ∧ (yy : Int) = fy)
            · have tA : cellB ((xx : Int), (yy : Int)) (fx, fy) = true := by rw [cellB_eq]; simp [he.1, he.2]
              rw [tA] at hq1
              rw [if_pos ⟨he.1, he.2, hc0⟩] at fw
              subst fw
              have HHc := HHb
              clear he tA
              go_wp2_with (go_at_call 41; refine (HHc.out _).mono ?_; rintro e w5 ⟨rfl, hb5⟩; obtain ⟨hc5, hf5⟩ := hb5.cells; have hz5 := hb5.size; (repeat (first | rw [World.size_alloc] at hz5 | rw [World.size_drew] at hz5)); have z5_0 : w.heap.size < w5.heap.size := (by omega); have z5_1 : w.heap.size + 1 < w5.heap.size := (by omega); have z5_2 : w.heap.size + 2 < w5.heap.size := (by omega); have z5_3 : ab < w5.heap.size := (by omega); have z5_4 : g < w5.heap.size := (by omega))
              go_roundw
              case rel => exact ⟨xx + 1, by omega, by go_num, HXx.out.trans (by (with_reducible (repeat' (first | exact Ext.refl _ | assumption | refine Ext.drew ?_ | refine Ext.drewN ?_ _ | refine Ext.alloc ?_ _ | refine Ext.setCell ?_ ?_ _ | refine Ext.trans ?_ (by assumption)))); all_goals (first | (simp; done) | (simp; omega)))⟩
              case measure => simp [intOf]; omega
            · have tA : cellB ((xx : Int), (yy : Int)) (fx, fy) = false := by rw [cellB_eq]; simpa using he
              rw [tA] at hq1
              rw [if_neg (fun h => he ⟨h.1, h.2.1⟩)] at fw
              cases hh : hasB bx byy bw bh (xx : Int) (yy : Int)
              · rw [hh] at HHb fw
                rw [if_neg (fun h => by cases h.2)] at fw
                rw [eI] at fw
                subst fw
                have HHc := HHb
                clear he tA hh
                go_wp2_with (go_at_call 41; refine (HHc.out _).mono ?_; rintro e w5 ⟨rfl, hb5⟩; obtain ⟨hc5, hf5⟩ := hb5.cells; have hz5 := hb5.size; (repeat (first | rw [World.size_alloc] at hz5 | rw [World.size_drew] at hz5)); have z5_0 : w.heap.size < w5.heap.size := (by omega); have z5_1 : w.heap.size + 1 < w5.heap.size := (by omega); have z5_2 : w.heap.size + 2 < w5.heap.size := (by omega); have z5_3 : ab < w5.heap.size := (by omega); have z5_4 : g < w5.heap.size := (by omega))
                go_roundw
                case rel => exact ⟨xx + 1, by omega, by go_num, HXx.out.trans (by (with_reducible (repeat' (first | exact Ext.refl _ | assumption | refine Ext.drew ?_ | refine Ext.drewN ?_ _ | refine Ext.alloc ?_ _ | refine Ext.setCell ?_ ?_ _ | refine Ext.trans ?_ (by assumption)))); all_goals (first | (simp; done) | (simp; omega)))⟩
                case measure => simp [intOf]; omega
              · rw [hh] at HHb fw
                rw [if_pos ⟨hc0, rfl⟩] at fw
                have HHc := HHb
                have HFW := hide fw
                clear fw he tA hh
                go_wp2_with (go_at_call 41; refine (HHc.out _).mono ?_; rintro e w5 ⟨rfl, hb5⟩; obtain ⟨hc5, hf5⟩ := hb5.cells; have hz5 := hb5.size; (repeat (first | rw [World.size_alloc] at hz5 | rw [World.size_drew] at hz5)); have z5_0 : w.heap.size < w5.heap.size := (by omega); have z5_1 : w.heap.size + 1 < w5.heap.size := (by omega); have z5_2 : w.heap.size + 2 < w5.heap.size := (by omega); have z5_3 : ab < w5.heap.size := (by omega); have z5_4 : g < w5.heap.size := (by omega))
                have hw5 : Ext wr w5 := (by (with_reducible (repeat' (first | exact Ext.refl _ | assumption | refine Ext.drew ?_ | refine Ext.drewN ?_ _ | refine Ext.alloc ?_ _ | refine Ext.setCell ?_ ?_ _ | refine Ext.trans ?_ (by assumption)))); all_goals (first | (simp; done) | (simp; omega)))
                have r0 := (hw5.cell (p := ⟨w.heap.size, 0, none⟩) zx0).trans q0
                have r1 := (hw5.cell (p := ⟨w.heap.size, 1, none⟩) zx0).trans q1
                have r2 := (hw5.cell (p := ⟨w.heap.size, 2, none⟩) zx0).trans q2
                have r3 := (hw5.cell (p := ⟨w.heap.size + 1, 0, none⟩) zx1).trans q3
                have r4 := (hw5.cell (p := ⟨w.heap.size + 1, 1, none⟩) zx1).trans q4
                have r5 := (hw5.cell (p := ⟨w.heap.size + 1, 2, none⟩) zx1).trans q5
                have r6 := (hw5.cell (p := ⟨w.heap.size + 1, 3, none⟩) zx1).trans q6
                have r7 : w5.cell? ⟨wr.heap.size, 0, none⟩ = some (.int .i64 xx) := by rw [hc5 _ _ (by simp)]; simp [go_sem]
                have r8 : w5.cell? ⟨wr.heap.size, 1, none⟩ = some (.int .i64 yy) := by rw [hc5 _ _ (by simp)]; simp [go_sem]
                have zc5 : wr.heap.size < w5.heap.size := by have := hb5.size; simp at this; omega
                have FA5 := hide (AA.out.ext (H2x.out.trans hw5))
                have HX5 := hide (HXx.out.trans hw5)
                have FC5 := hide ((hw5.cell (p := ⟨g, j, none⟩) zga).trans fc)
                obtain ⟨cbk, hcbk⟩ : ∃ z, wr.heap.size = z := ⟨_, rfl⟩
                rw [hcbk] at zc5 r7 r8 ⊢
                clear hcbk
                have QA := hide (show _ ∧ _ ∧ _ ∧ _ ∧ _ ∧ _ ∧ _ ∧ _ ∧ _ from ⟨r0, r1, r2, r3, r4, r5, r6, r7, r8⟩)
                have zw5 : w.heap.size + 1 < w5.heap.size := z5_1
                have zw50 : w.heap.size < w5.heap.size := z5_0
                have zg5 : g < w5.heap.size := z5_4
                clear hc5 hf5 hz5 hb5 z5_0 z5_1 z5_2 z5_3 z5_4 q0 q1 q2 q3 q4 q5 q6 q7 q8 r0 r1 r2 r3 r4 r5 r6 r7 r8 hw5 cc fc hq1
                go_loopw [13, 14] (fun wv dv wd => ∃ k : Nat, k ≤ 4 ∧ wv = .int .u64 (leastF far W bx byy bw bh (xx : Int) (yy : Int) cost k) ∧ dv = .int .i64 k ∧ Ext w5 wd) (fun _ dv _ => (4 - intOf dv).toNat)
                case atStart => exact ⟨0, by omega, rfl, rfl, Ext.refl _⟩
                case round =>
                  obtain ⟨k, hk, rfl, rfl, hext⟩ := hrel
                  have HXd := hide hext
                  obtain ⟨b0, b1, b2, b3, b4, b5, b6, b7, b8⟩ := QA.out
                  have zd := hext.size
                  have hfd := (hext.cell (p := ⟨g, j, none⟩) zg5).trans FC5.out
                  have q0 := (hext.cell (p := ⟨w.heap.size, 0, none⟩) zw50).trans b0
                  by_cases hk4 : k < 4
                  · have q1 := (hext.cell (p := ⟨w.heap.size, 1, none⟩) zw50).trans b1
                    have q2 := (hext.cell (p := ⟨w.heap.size, 2, none⟩) zw50).trans b2
                    have q3 := (hext.cell (p := ⟨w.heap.size + 1, 0, none⟩) zw5).trans b3
                    have q4 := (hext.cell (p := ⟨w.heap.size + 1, 1, none⟩) zw5).trans b4
                    have q5 := (hext.cell (p := ⟨w.heap.size + 1, 2, none⟩) zw5).trans b5
                    have q6 := (hext.cell (p := ⟨w.heap.size + 1, 3, none⟩) zw5).trans b6
                    have q7 := (hext.cell (p := ⟨cbk, 0, none⟩) zc5).trans b7
                    have q8 := (hext.cell (p := ⟨cbk, 1, none⟩) zc5).trans b8
                    have hsd := step_dir hk4 (xx : Int) (yy : Int)
                    have hbd := dir_bd k
                    have S1 := hide (fun w' => rStep_any (xx : Int) (yy : Int) (k : Int) w' (by omega) (by omega))
                    have S2 := hide (fun (w' : World) (fa : FarAt w' w1.heap.size g cg far n) => HAt.out w' g cg _ far fa (stepX (xx : Int) (k : Int)) (stepY (yy : Int) (k : Int)) (by omega) (by omega))
                    have hnr := near_nn FB.out W bx byy bw bh (xx : Int) (yy : Int) k
                    have hls : leastF far W bx byy bw bh (xx : Int) (yy : Int) cost (k + 1) = if satS (nearF far W bx byy bw bh (xx : Int) (yy : Int) k) cost < leastF far W bx byy bw bh (xx : Int) (yy : Int) cost k then satS (nearF far W bx byy bw bh (xx : Int) (yy : Int) k) cost else leastF far W bx byy bw bh (xx : Int) (yy : Int) cost k := rfl
                    change Hid (∀ w', FarAt w' w1.heap.size g cg far n → Calls Try.prog 46 #[.agg #[.int .i64 W, .int .i64 H, .slice (some ⟨ab, aoff, none⟩) n c], .agg #[.int .i64 bx, .int .i64 byy, .int .i64 bw, .int .i64 bh], .slice (some ⟨g, 0, none⟩) n cg, .agg #[.int .i64 (stepX (xx : Int) (k : Int)), .int .i64 (stepY (yy : Int) (k : Int))]] w' fun e w'' => e = .returned (.int .u64 (nearF far W bx byy bw bh (xx : Int) (yy : Int) k)) ∧ Ext w' w'') at S2
                    generalize nearF far W bx byy bw bh (xx : Int) (yy : Int) k = nr at *
                    have S3 := hide (fun w' => satAdd_any nr cost w' hnr.1 (by omega) (by omega) (by omega))
                    change Hid (∀ w', Calls Try.prog 45 #[.int .u64 nr, .int .u64 cost] w' fun e w'' => e = .returned (.int .u64 (satS nr cost)) ∧ Ext w' w'') at S3
                    generalize satS nr cost = sv at *
                    have HLS := hide hls
                    generalize leastF far W bx byy bw bh (xx : Int) (yy : Int) cost k = mm at *
                    obtain ⟨sx, hsx⟩ : ∃ z, stepX (xx : Int) (k : Int) = z := ⟨_, rfl⟩
                    obtain ⟨sy, hsy⟩ : ∃ z, stepY (yy : Int) (k : Int) = z := ⟨_, rfl⟩
                    rw [hsx, hsy] at S1 S2
                    have zr1 : w.heap.size < wr.heap.size := by omega
                    have zr2 : w.heap.size + 1 < wr.heap.size := by omega
                    have zr3 := Nat.lt_of_lt_of_le zc5 zd
                    clear hls hsx hsy hsd hbd hnr hext b0 b1 b2 b3 b4 b5 b6 b7 b8 hfd
                    go_wp2_with fail
                    refine wp_region_held_drew (S := (fun W => (∀ b o, b < wr.heap.size → W.cell? ⟨b, o, none⟩ = wr.cell? ⟨b, o, none⟩) ∧ Ext wr W)) (by kernel_rfl) (pr_start _) (fun hHeld => ?_)
                    (((refine wpAnyH_take (i := 0) (oi := ?g123_o) (v := ?g123_v) ?g123_hi (by kernel_rfl) (by kernel_rfl) (by kernel_rfl) ?g123_hq ?g123_hy (by assumption) ?g123_gr; (case g123_hi => (simp only [List.getElem?_toArray, List.getElem?_cons_zero]; rfl)); (case g123_hq => exact fun _ _ _ h => h); (case g123_hy => (refine Or.inl ⟨by rfl, ?_⟩; intro w hSw; (try dsimp only at hSw); go_simp; try with_reducible rfl)); try simp only [Act.put, List.setIfInBounds_toArray, List.set_cons_zero, List.set_cons_succ])); ((refine wpAnyH_take (i := 1) (oi := ?g124_o) (v := ?g124_v) ?g124_hi (by kernel_rfl) (by kernel_rfl) (by kernel_rfl) ?g124_hq ?g124_hy (by assumption) ?g124_gr; (case g124_hi => (simp only [List.getElem?_toArray, List.getElem?_cons_succ, List.getElem?_cons_zero]; rfl)); (case g124_hq => exact fun _ _ _ h => h); (case g124_hy => (refine Or.inl ⟨by rfl, ?_⟩; intro w hSw; (try dsimp only at hSw); go_simp; try with_reducible rfl)); try simp only [Act.put, List.setIfInBounds_toArray, List.set_cons_zero, List.set_cons_succ])); ((refine wpAnyH_take (i := 2) (oi := ?g125_o) (v := ?g125_v) ?g125_hi (by kernel_rfl) (by kernel_rfl) (by kernel_rfl) ?g125_hq ?g125_hy (by assumption) ?g125_gr; (case g125_hi => (simp only [List.getElem?_toArray, List.getElem?_cons_succ, List.getElem?_cons_zero]; rfl)); (case g125_hq => exact fun _ _ _ h => h); (case g125_hy => (refine Or.inl ⟨by rfl, ?_⟩; intro w hSw; (try dsimp only at hSw); go_simp; try with_reducible rfl)); try simp only [Act.put, List.setIfInBounds_toArray, List.set_cons_zero, List.set_cons_succ])); ((refine wpAnyH_take (i := 3) (oi := ?g126_o) (v := ?g126_v) ?g126_hi (by kernel_rfl) (by kernel_rfl) (by kernel_rfl) ?g126_hq ?g126_hy (by assumption) ?g126_gr; (case g126_hi => (simp only [List.getElem?_toArray, List.getElem?_cons_succ, List.getElem?_cons_zero]; rfl)); (case g126_hq => exact fun _ _ _ h => h); (case g126_hy => (refine Or.inl ⟨by rfl, ?_⟩; intro w hSw; (try dsimp only at hSw); go_simp; try with_reducible rfl)); try simp only [Act.put, List.setIfInBounds_toArray, List.set_cons_zero, List.set_cons_succ])); ((refine wpAnyH_take (i := 4) (oi := ?g127_o) (v := ?g127_v) ?g127_hi (by kernel_rfl) (by kernel_rfl) (by kernel_rfl) ?g127_hq ?g127_hy (by assumption) ?g127_gr; (case g127_hi => (simp only [List.getElem?_toArray, List.getElem?_cons_succ, List.getElem?_cons_zero]; rfl)); (case g127_hq => exact fun _ _ _ h => h); (case g127_hy => (refine Or.inl ⟨by rfl, ?_⟩; intro w hSw; (try dsimp only at hSw); go_simp; try with_reducible rfl)); try simp only [Act.put, List.setIfInBounds_toArray, List.set_cons_zero, List.set_cons_succ])); ((refine wpAnyH_take (i := 7) (oi := ?g128_o) (v := ?g128_v) ?g128_hi (by kernel_rfl) (by kernel_rfl) (by kernel_rfl) ?g128_hq ?g128_hy (by assumption) ?g128_gr; (case g128_hi => (simp only [List.getElem?_toArray, List.getElem?_cons_succ, List.getElem?_cons_zero]; rfl)); (case g128_hq => exact fun _ _ _ h => h); (case g128_hy => (refine Or.inl ⟨by rfl, ?_⟩; intro w hSw; (try dsimp only at hSw); go_simp; try with_reducible rfl)); try simp only [Act.put, List.setIfInBounds_toArray, List.set_cons_zero, List.set_cons_succ])); ((refine wpAnyH_take (i := 8) (oi := ?g129_o) (v := ?g129_v) ?g129_hi (by kernel_rfl) (by kernel_rfl) (by kernel_rfl) ?g129_hq ?g129_hy (by assumption) ?g129_gr; (case g129_hi => (simp only [List.getElem?_toArray, List.getElem?_cons_succ, List.getElem?_cons_zero]; rfl)); (case g129_hq => exact fun _ _ _ h => h); (case g129_hy => (refine Or.inl ⟨by rfl, ?_⟩; intro w hSw; (try dsimp only at hSw); go_simp; try with_reducible rfl)); try simp only [Act.put, List.setIfInBounds_toArray, List.set_cons_zero, List.set_cons_succ])))
                    (refine wpAnyH_ready (rs := [5]) (by kernel_rfl) (by simp) ?_; refine AllReadyH.cons (o := ?g130_o) ?g130_hi (fun K hK => ?_) AllReadyH.nil; (case g130_hi => (simp only [List.getElem?_toArray, List.getElem?_cons_succ, List.getElem?_cons_zero]; rfl)); go_simp; refine (S1.out _).mono ?_; rintro e w6 ⟨rfl, hb6⟩; go_wp2_with fail; refine hK.out _ _ (pr_of (by (with_reducible (repeat' (first | exact Ext.refl _ | assumption | refine Ext.drew ?_ | refine Ext.drewN ?_ _ | refine Ext.alloc ?_ _ | refine Ext.setCell ?_ ?_ _ | refine Ext.trans ?_ (by assumption)))); all_goals (first | (simp; done) | (simp; omega)))) (fun hHeld => ?_); clear hK K; try simp only [Act.put, List.setIfInBounds_toArray, List.set_cons_zero, List.set_cons_succ])
                    (refine wpAnyH_ready (rs := [6]) (by kernel_rfl) (by simp) ?_; refine AllReadyH.cons (o := ?g131_o) ?g131_hi (fun K hK => ?_) AllReadyH.nil; (case g131_hi => (simp only [List.getElem?_toArray, List.getElem?_cons_succ, List.getElem?_cons_zero]; rfl)); go_simp; refine (S2.out _ (FA5.out.ext (HXd.out.trans (by (with_reducible (repeat' (first | exact Ext.refl _ | assumption | refine Ext.drew ?_ | refine Ext.drewN ?_ _ | refine Ext.alloc ?_ _ | refine Ext.setCell ?_ ?_ _ | refine Ext.trans ?_ (by assumption)))); all_goals (first | (simp; done) | (simp; omega)))))).mono ?_; rintro e w7 ⟨rfl, hb7⟩; go_wp2_with fail; refine hK.out _ _ (pr_of (by (with_reducible (repeat' (first | exact Ext.refl _ | assumption | refine Ext.drew ?_ | refine Ext.drewN ?_ _ | refine Ext.alloc ?_ _ | refine Ext.setCell ?_ ?_ _ | refine Ext.trans ?_ (by assumption)))); all_goals (first | (simp; done) | (simp; omega)))) (fun hHeld => ?_); clear hK K; try simp only [Act.put, List.setIfInBounds_toArray, List.set_cons_zero, List.set_cons_succ])
                    (refine wpAnyH_ready (rs := [9]) (by kernel_rfl) (by simp) ?_; refine AllReadyH.cons (o := ?g132_o) ?g132_hi (fun K hK => ?_) AllReadyH.nil; (case g132_hi => (simp only [List.getElem?_toArray, List.getElem?_cons_succ, List.getElem?_cons_zero]; rfl)); go_simp; refine (S3.out _).mono ?_; rintro e w8 ⟨rfl, hb8⟩; go_wp2_with fail; refine hK.out _ _ (pr_of (by (with_reducible (repeat' (first | exact Ext.refl _ | assumption | refine Ext.drew ?_ | refine Ext.drewN ?_ _ | refine Ext.alloc ?_ _ | refine Ext.setCell ?_ ?_ _ | refine Ext.trans ?_ (by assumption)))); all_goals (first | (simp; done) | (simp; omega)))) (fun hHeld => ?_); clear hK K; try simp only [Act.put, List.setIfInBounds_toArray, List.set_cons_zero, List.set_cons_succ])
                    ((refine wpAnyH_take (i := 10) (oi := ?g133_o) (v := ?g133_v) ?g133_hi (by kernel_rfl) (by kernel_rfl) (by kernel_rfl) ?g133_hq ?g133_hy (by assumption) ?g133_gr; (case g133_hi => (simp only [List.getElem?_toArray, List.getElem?_cons_succ, List.getElem?_cons_zero]; rfl)); (case g133_hq => exact fun _ _ _ h => h); (case g133_hy => (refine Or.inl ⟨by rfl, ?_⟩; intro w hSw; (try dsimp only at hSw); go_simp; try with_reducible rfl)); try simp only [Act.put, List.setIfInBounds_toArray, List.set_cons_zero, List.set_cons_succ]))
                    refine wpAnyH_done (by kernel_rfl) ?_ _
                    by_cases hc : sv < mm
                    · go_wp2_with fail
                      go_roundw
                      case rel => exact ⟨k + 1, by omega, by rw [HLS.out, if_pos hc], by go_num, HXd.out.trans hHeld.2⟩
                      case measure => simp [intOf]; omega
                    · have hcd : decide (sv < mm) = false := by simp; omega
                      have HNC := hide hc
                      go_wp2_with fail
                      go_roundw
                      case rel => exact ⟨k + 1, by omega, by rw [HLS.out, if_neg HNC.out], by go_num, HXd.out.trans hHeld.2⟩
                      case measure => simp [intOf]; omega
                  · obtain rfl : k = 4 := by omega
                    rw [← HFW.out]
                    have hkd4 : decide (((4 : Nat) : Int) < 4) = false := rfl
                    have z1 : w.heap.size < wr.heap.size := by omega
                    have z2 : g < wr.heap.size := by omega
                    clear b0 b1 b2 b3 b4 b5 b6 b7 b8
                    go_wp2_with fail
                    go_roundw
                    case rel => exact ⟨xx + 1, by omega, by go_num, HX5.out.trans HXd.out⟩
                    case measure => simp [intOf]; omega
          · obtain rfl : cost = 0 := by omega
            rw [if_neg (fun h => by omega), if_neg (fun h => by omega), eI] at fw
            subst fw
            have HHc := HHb
            cases tA : cellB ((xx : Int), (yy : Int)) (fx, fy)
            · rw [tA] at hq1
              clear tA
              go_wp2_with (go_at_call 41; refine (HHc.out _).mono ?_; rintro e w5 ⟨rfl, hb5⟩; obtain ⟨hc5, hf5⟩ := hb5.cells; have hz5 := hb5.size; (repeat (first | rw [World.size_alloc] at hz5 | rw [World.size_drew] at hz5)); have z5_0 : w.heap.size < w5.heap.size := (by omega); have z5_1 : w.heap.size + 1 < w5.heap.size := (by omega); have z5_2 : w.heap.size + 2 < w5.heap.size := (by omega); have z5_3 : ab < w5.heap.size := (by omega); have z5_4 : g < w5.heap.size := (by omega))
              go_roundw
              case rel => exact ⟨xx + 1, by omega, by go_num, HXx.out.trans (by (with_reducible (repeat' (first | exact Ext.refl _ | assumption | refine Ext.drew ?_ | refine Ext.drewN ?_ _ | refine Ext.alloc ?_ _ | refine Ext.setCell ?_ ?_ _ | refine Ext.trans ?_ (by assumption)))); all_goals (first | (simp; done) | (simp; omega)))⟩
              case measure => simp [intOf]; omega
            · rw [tA] at hq1
              clear tA
              go_wp2_with (go_at_call 41; refine (HHc.out _).mono ?_; rintro e w5 ⟨rfl, hb5⟩; obtain ⟨hc5, hf5⟩ := hb5.cells; have hz5 := hb5.size; (repeat (first | rw [World.size_alloc] at hz5 | rw [World.size_drew] at hz5)); have z5_0 : w.heap.size < w5.heap.size := (by omega); have z5_1 : w.heap.size + 1 < w5.heap.size := (by omega); have z5_2 : w.heap.size + 2 < w5.heap.size := (by omega); have z5_3 : ab < w5.heap.size := (by omega); have z5_4 : g < w5.heap.size := (by omega))
              go_roundw
              case rel => exact ⟨xx + 1, by omega, by go_num, HXx.out.trans (by (with_reducible (repeat' (first | exact Ext.refl _ | assumption | refine Ext.drew ?_ | refine Ext.drewN ?_ _ | refine Ext.alloc ?_ _ | refine Ext.setCell ?_ ?_ _ | refine Ext.trans ?_ (by assumption)))); all_goals (first | (simp; done) | (simp; omega)))⟩
              case measure => simp [intOf]; omega
        · have hd : decide ((xx : Int) < W) = false := by simp; omega
          go_wp2_with fail
          go_roundw
          case rel => exact ⟨yy + 1, by omega, by go_num, HXy.out.trans HXx.out⟩
          case measure => simp [intOf]; omega
    · have hd : decide ((yy : Int) < H) = false := by simp; omega
      go_wp2_with (go_at_call 34; refine (awake08_any _).mono ?_; rintro e w9 ⟨rfl, hb9⟩)
      go_ret
      exact ⟨rfl, ((HX2.out.trans H24.out).trans HXy.out).trans hb9⟩

theorem floodNear_any {w : World} (W H : Int) (a : Option Addr) (l : List Int) (c : Nat) (bx byy bw bh fx fy : Int) (hr : Row16 w a l) (hu : U16s l) :
    Calls Try.prog 11 #[.agg #[.int .i64 W, .int .i64 H, .slice a l.length c], .agg #[.int .i64 bx, .int .i64 byy, .int .i64 bw, .int .i64 bh], .agg #[.int .i64 fx, .int .i64 fy]] w fun e w' => e = .returned (.bool true) ∧ Ext w w' := by
  by_cases hn : (l.length : Int) ≤ 150
  · by_cases h1 : lookE W H l.length bx byy bw bh fx fy = 0
    · exact fn_ok c bx byy bw bh fx fy hr hu hn h1
    · exact fn_bad c bx byy bw bh fx fy hn h1
  · exact fn_far W H a l.length c bx byy bw bh fx fy hn
end Go.Proofs.Ytkonojjillcfiaa
