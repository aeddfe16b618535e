/- The walk of FloodFar. -/
import Derived.Test.YtkonojjillcfiaaFarW
import Derived.Test.YtkonojjillcfiaaLawFT
namespace Go.Proofs.Ytkonojjillcfiaa
open Go.RowKit

set_option maxRecDepth 100000 in
theorem fd_far {w : World} (W H : Int) (a : Option Addr) (n c : Nat) (bx byy bw bh x y : Int) (hn : ¬ (n : Int) ≤ 150) :
    Calls Try.prog 9 #[.agg #[.int .i64 W, .int .i64 H, .slice a n c], .agg #[.int .i64 bx, .int .i64 byy, .int .i64 bw, .int .i64 bh], .agg #[.int .i64 x, .int .i64 y]] w fun e w' => e = .returned (.bool true) ∧ Ext w w' := by
  have HS := hide (fun w' => small08_any W H a n c w')
  rw [show decide ((n : Int) ≤ 150) = false by simpa using hn] at HS
  clear hn
  go_enter Try.func9, Try.ntmps9
  go_wp2_with (first
    | (go_at_call 33; refine (HS.out _).mono ?_; rintro e w1 ⟨rfl, hb1⟩; obtain ⟨hc1, hf1⟩ := hb1.cells; have hz1 := hb1.size; (repeat (first | rw [World.size_alloc] at hz1 | rw [World.size_drew] at hz1)))
    | (go_at_call 34; refine (awake08_any _).mono ?_; rintro e w2 ⟨rfl, hb2⟩))
  go_ret
  exact ⟨rfl, (by (with_reducible (repeat' (first | exact Ext.refl _ | assumption | refine Ext.drew ?_ | refine Ext.drewN ?_ _ | refine Ext.alloc ?_ _ | refine Ext.setCell ?_ ?_ _ | refine Ext.trans ?_ (by assumption)))); all_goals (first | (simp; done) | (simp; omega)))⟩

set_option maxRecDepth 100000 in
theorem fd_bb {w : World} (W H : Int) (a : Option Addr) (n c : Nat) (bx byy bw bh x y : Int) (hn : (n : Int) ≤ 150) (iW : InI W) (iH : InI H) (ix : InI x) (iy : InI y) (he : lookE W H n bx byy bw bh x y ≠ 0) (hw : lookE W H n 0 0 W H x y ≠ 0) :
    Calls Try.prog 9 #[.agg #[.int .i64 W, .int .i64 H, .slice a n c], .agg #[.int .i64 bx, .int .i64 byy, .int .i64 bw, .int .i64 bh], .agg #[.int .i64 x, .int .i64 y]] w fun e w' => e = .returned (.bool true) ∧ Ext w w' := by
  have HS := hide (fun w' => small08_any W H a n c w')
  rw [show decide ((n : Int) ≤ 150) = true by simpa using hn] at HS
  have H1 := hide (fun (w' : World) => fWithin_bad (w := w') W H a n c bx byy bw bh x y he)
  have H2 := hide (fun (w' : World) => r08May_any W H a n c bx byy bw bh x y w' iW iH ix iy)
  have H3 := hide (fun (w' : World) => fFrom_bad (w := w') W H a n c x y hw)
  have H4 := hide (fun (w' : World) => r08May_any W H a n c 0 0 W H x y w' iW iH ix iy)
  generalize lookE W H n bx byy bw bh x y = e1 at *
  generalize lookE W H n 0 0 W H x y = e2 at *
  have hb : (e1 != e1) = false := by simp
  have hb2 : (e1 == 0) = false := by simpa using he
  have hb3 : (e2 != 0) = true := by simpa using hw
  have hb4 : (e2 == e2) = true := by simp
  clear he hw hn iW iH ix iy
  go_enter Try.func9, Try.ntmps9
  go_wp2_with (go_at_call 33; refine (HS.out _).mono ?_; rintro e w1 ⟨rfl, hb1⟩; obtain ⟨hc1, hf1⟩ := hb1.cells; have hz1 := hb1.size; (repeat (first | rw [World.size_alloc] at hz1 | rw [World.size_drew] at hz1)); have z1_0 : w.heap.size < w1.heap.size := (by omega); have z1_1 : w.heap.size + 1 < w1.heap.size := (by omega); have z1_2 : w.heap.size + 2 < w1.heap.size := (by omega))
  refine (H1.out _).mono ?_
  rintro e w2 ⟨rfl, hb2⟩
  obtain ⟨hc2, hf2⟩ := hb2.cells; have hz2 := hb2.size; (repeat (first | rw [World.size_alloc] at hz2 | rw [World.size_drew] at hz2)); have z2_0 : w.heap.size < w2.heap.size := (by omega); have z2_1 : w.heap.size + 1 < w2.heap.size := (by omega); have z2_2 : w.heap.size + 2 < w2.heap.size := (by omega)
  go_wp2_with fail
  refine (H2.out _).mono ?_
  rintro e w3 ⟨rfl, hb3⟩
  obtain ⟨hc3, hf3⟩ := hb3.cells; have hz3 := hb3.size; (repeat (first | rw [World.size_alloc] at hz3 | rw [World.size_drew] at hz3)); have z3_0 : w.heap.size < w3.heap.size := (by omega); have z3_1 : w.heap.size + 1 < w3.heap.size := (by omega); have z3_2 : w.heap.size + 2 < w3.heap.size := (by omega)
  go_wp2_with fail
  refine (H3.out _).mono ?_
  rintro e w4 ⟨rfl, hb4⟩
  obtain ⟨hc4, hf4⟩ := hb4.cells; have hz4 := hb4.size; (repeat (first | rw [World.size_alloc] at hz4 | rw [World.size_drew] at hz4)); have z4_0 : w.heap.size < w4.heap.size := (by omega); have z4_1 : w.heap.size + 1 < w4.heap.size := (by omega); have z4_2 : w.heap.size + 2 < w4.heap.size := (by omega); have z4_3 : w3.heap.size < w4.heap.size := (by omega)
  go_wp2_with fail
  refine (H4.out _).mono ?_
  rintro e w5 ⟨rfl, hb5⟩
  go_wp2_with (go_at_call 34; refine (awake08_any _).mono ?_; rintro e w6 ⟨rfl, hb6⟩)
  go_ret
  exact ⟨rfl, (by (with_reducible (repeat' (first | exact Ext.refl _ | assumption | refine Ext.drew ?_ | refine Ext.drewN ?_ _ | refine Ext.alloc ?_ _ | refine Ext.setCell ?_ ?_ _ | refine Ext.trans ?_ (by assumption)))); all_goals (first | (simp; done) | (simp; omega)))⟩

set_option maxRecDepth 100000 in
set_option maxHeartbeats 1000000 in
theorem fd_bo {w : World} {W H : Int} {a : Option Addr} {l : List Int} (c : Nat) (bx byy bw bh x y : Int) (hr : Row16 w a l) (hu : U16s l) (hn : (l.length : Int) ≤ 150) (iW : InI W) (iH : InI H) (ix : InI x) (iy : InI y) (he : lookE W H l.length bx byy bw bh x y ≠ 0) (hw : lookE W H l.length 0 0 W H x y = 0) :
    Calls Try.prog 9 #[.agg #[.int .i64 W, .int .i64 H, .slice a l.length c], .agg #[.int .i64 bx, .int .i64 byy, .int .i64 bw, .int .i64 bh], .agg #[.int .i64 x, .int .i64 y]] w fun e w' => e = .returned (.bool true) ∧ Ext w w' := by
  have HS := hide (fun w' => small08_any W H a l.length c w')
  rw [show decide ((l.length : Int) ≤ 150) = true by simpa using hn] at HS
  have H1 := hide (fun (w' : World) => fWithin_bad (w := w') W H a l.length c bx byy bw bh x y he)
  have H2 := hide (fun (w' : World) => r08May_any W H a l.length c bx byy bw bh x y w' iW iH ix iy)
  have H3 := hide (fun (w' : World) (hx : Ext w w') => fFrom_ok c hw (hr.ext hx) hu)
  have H4 := hide (fun (w' : World) => r08May_any W H a l.length c 0 0 W H x y w' iW iH ix iy)
  have H5 := hide (fun (w' : World) (hx : Ext w w') (D : Nat → Int) (F : IsFar (mapNet (landP_of hw hu)) (idxN W (x, y)) D) => rFar_any c hw (hr.ext hx) hu F)
  rw [hw] at H4
  have n1 : 0 < l.length := by have := (landP_of hw hu).idx_lt ((landP_of hw hu).in_ (lookE_ok.1 hw).2.2.2); omega
  have H6 := hide (fun (w' : World) (va vb : Value) (D : Nat → Int) (ha : Reads u64E w' va (farL D l.length)) (hb : Reads u64E w' vb (farL D l.length)) => same08_any (w := w') (by rw [farL_len]; omega) (by rw [farL_len]; exact n1) ha hb)
  generalize lookE W H l.length bx byy bw bh x y = e1 at *
  have hb : (e1 != e1) = false := by simp
  have hb2 : (e1 == 0) = false := by simpa using he
  obtain ⟨G, hG⟩ : ∃ G, mapNet (landP_of hw hu) = G := ⟨_, rfl⟩
  rw [hG] at H3 H5
  obtain ⟨n, hnn⟩ : ∃ n, l.length = n := ⟨_, rfl⟩
  rw [hnn] at HS H1 H2 H3 H4 H5 H6 n1 ⊢
  clear he hw hn iW iH ix iy hr hu hnn hG
  go_enter Try.func9, Try.ntmps9
  go_wp2_with (go_at_call 33; refine (HS.out _).mono ?_; rintro e w1 ⟨rfl, hb1⟩; obtain ⟨hc1, hf1⟩ := hb1.cells; have hz1 := hb1.size; (repeat (first | rw [World.size_alloc] at hz1 | rw [World.size_drew] at hz1)); have z1_0 : w.heap.size < w1.heap.size := (by omega); have z1_1 : w.heap.size + 1 < w1.heap.size := (by omega); have z1_2 : w.heap.size + 2 < w1.heap.size := (by omega))
  refine (H1.out _).mono ?_
  rintro e w2 ⟨rfl, hb2⟩
  obtain ⟨hc2, hf2⟩ := hb2.cells; have hz2 := hb2.size; (repeat (first | rw [World.size_alloc] at hz2 | rw [World.size_drew] at hz2)); have z2_0 : w.heap.size < w2.heap.size := (by omega); have z2_1 : w.heap.size + 1 < w2.heap.size := (by omega); have z2_2 : w.heap.size + 2 < w2.heap.size := (by omega)
  go_wp2_with fail
  refine (H2.out _).mono ?_
  rintro e w3 ⟨rfl, hb3⟩
  obtain ⟨hc3, hf3⟩ := hb3.cells; have hz3 := hb3.size; (repeat (first | rw [World.size_alloc] at hz3 | rw [World.size_drew] at hz3)); have z3_0 : w.heap.size < w3.heap.size := (by omega); have z3_1 : w.heap.size + 1 < w3.heap.size := (by omega); have z3_2 : w.heap.size + 2 < w3.heap.size := (by omega)
  go_wp2_with fail
  refine (H3.out _ (by (with_reducible (repeat' (first | exact Ext.refl _ | assumption | refine Ext.drew ?_ | refine Ext.drewN ?_ _ | refine Ext.alloc ?_ _ | refine Ext.setCell ?_ ?_ _ | refine Ext.trans ?_ (by assumption)))); all_goals (first | (simp; done) | (simp; omega)))).mono ?_
  rintro e w4 ⟨v, far, rfl, hb4, hv, F1, _⟩
  obtain ⟨hc4, hf4⟩ := hb4.cells; have hz4 := hb4.size; (repeat (first | rw [World.size_alloc] at hz4 | rw [World.size_drew] at hz4)); have z4_0 : w.heap.size < w4.heap.size := (by omega); have z4_1 : w.heap.size + 1 < w4.heap.size := (by omega); have z4_2 : w.heap.size + 2 < w4.heap.size := (by omega); have z4_3 : w3.heap.size < w4.heap.size := (by omega)
  have HV := hide hv.reads
  have HF := hide F1
  clear hv F1
  go_wp2_with fail
  refine (H4.out _).mono ?_
  rintro e w5 ⟨rfl, hb5⟩
  obtain ⟨hc5, hf5⟩ := hb5.cells; have hz5 := hb5.size; (repeat (first | rw [World.size_alloc] at hz5 | rw [World.size_drew] at hz5)); have z5_0 : w.heap.size < w5.heap.size := (by omega); have z5_1 : w.heap.size + 1 < w5.heap.size := (by omega); have z5_2 : w.heap.size + 2 < w5.heap.size := (by omega); have z5_3 : w3.heap.size < w5.heap.size := (by omega)
  go_wp2_with fail
  refine (H5.out _ (by (with_reducible (repeat' (first | exact Ext.refl _ | assumption | refine Ext.drew ?_ | refine Ext.drewN ?_ _ | refine Ext.alloc ?_ _ | refine Ext.setCell ?_ ?_ _ | refine Ext.trans ?_ (by assumption)))); all_goals (first | (simp; done) | (simp; omega))) _ HF.out).mono ?_
  rintro e w6 ⟨v2, rfl, hb6, hv2⟩
  have HV2 := hide hv2.reads
  clear hv2
  go_wp2_with fail
  refine (H6.out _ _ _ _ (HV.out.ext (by (with_reducible (repeat' (first | exact Ext.refl _ | assumption | refine Ext.drew ?_ | refine Ext.drewN ?_ _ | refine Ext.alloc ?_ _ | refine Ext.setCell ?_ ?_ _ | refine Ext.trans ?_ (by assumption)))); all_goals (first | (simp; done) | (simp; omega)))) HV2.out).mono ?_
  rintro e w7 ⟨rfl, hb7⟩
  go_wp2_with (go_at_call 34; refine (awake08_any _).mono ?_; rintro e w8 ⟨rfl, hb8⟩)
  go_ret
  exact ⟨rfl, (by (with_reducible (repeat' (first | exact Ext.refl _ | assumption | refine Ext.drew ?_ | refine Ext.drewN ?_ _ | refine Ext.alloc ?_ _ | refine Ext.setCell ?_ ?_ _ | refine Ext.trans ?_ (by assumption)))); all_goals (first | (simp; done) | (simp; omega)))⟩

set_option maxRecDepth 100000 in
set_option maxHeartbeats 1000000 in
theorem fd_oo {w : World} {W H : Int} {a : Option Addr} {l : List Int} (c : Nat) (bx byy bw bh x y : Int) (hr : Row16 w a l) (hu : U16s l) (hn : (l.length : Int) ≤ 150) (iW : InI W) (iH : InI H) (ix : InI x) (iy : InI y) (he : lookE W H l.length bx byy bw bh x y = 0) (hw : lookE W H l.length 0 0 W H x y = 0) :
    Calls Try.prog 9 #[.agg #[.int .i64 W, .int .i64 H, .slice a l.length c], .agg #[.int .i64 bx, .int .i64 byy, .int .i64 bw, .int .i64 bh], .agg #[.int .i64 x, .int .i64 y]] w fun e w' => e = .returned (.bool true) ∧ Ext w w' := by
  have HS := hide (fun w' => small08_any W H a l.length c w')
  rw [show decide ((l.length : Int) ≤ 150) = true by simpa using hn] at HS
  have H1 := hide (fun (w' : World) (hx : Ext w w') => fWithin_ok c he (hr.ext hx) hu)
  have H2 := hide (fun (w' : World) => r08May_any W H a l.length c bx byy bw bh x y w' iW iH ix iy)
  have HF1 := hide (fun (w' : World) (hx : Ext w w') (D : Nat → Int) (F : IsFar (mapNet (landP_of he hu)) (idxN W (x, y)) D) => rFar_any c he (hr.ext hx) hu F)
  have H3 := hide (fun (w' : World) (hx : Ext w w') => fFrom_ok c hw (hr.ext hx) hu)
  have H4 := hide (fun (w' : World) => r08May_any W H a l.length c 0 0 W H x y w' iW iH ix iy)
  have H5 := hide (fun (w' : World) (hx : Ext w w') (D : Nat → Int) (F : IsFar (mapNet (landP_of hw hu)) (idxN W (x, y)) D) => rFar_any c hw (hr.ext hx) hu F)
  rw [hw] at H4
  rw [he] at H2
  have n1 : 0 < l.length := by have := (landP_of hw hu).idx_lt ((landP_of hw hu).in_ (lookE_ok.1 hw).2.2.2); omega
  have H6 := hide (fun (w' : World) (va vb : Value) (D : Nat → Int) (ha : Reads u64E w' va (farL D l.length)) (hb : Reads u64E w' vb (farL D l.length)) => same08_any (w := w') (by rw [farL_len]; omega) (by rw [farL_len]; exact n1) ha hb)
  obtain ⟨G, hG⟩ : ∃ G, mapNet (landP_of hw hu) = G := ⟨_, rfl⟩
  rw [hG] at H3 H5
  obtain ⟨K, hK⟩ : ∃ K, mapNet (landP_of he hu) = K := ⟨_, rfl⟩
  rw [hK] at H1 HF1
  obtain ⟨n, hnn⟩ : ∃ n, l.length = n := ⟨_, rfl⟩
  rw [hnn] at HS H1 HF1 H2 H3 H4 H5 H6 n1 ⊢
  clear he hw hn iW iH ix iy hr hu hnn hG hK
  go_enter Try.func9, Try.ntmps9
  go_wp2_with (go_at_call 33; refine (HS.out _).mono ?_; rintro e w1 ⟨rfl, hb1⟩; obtain ⟨hc1, hf1⟩ := hb1.cells; have hz1 := hb1.size; (repeat (first | rw [World.size_alloc] at hz1 | rw [World.size_drew] at hz1)); have z1_0 : w.heap.size < w1.heap.size := (by omega); have z1_1 : w.heap.size + 1 < w1.heap.size := (by omega); have z1_2 : w.heap.size + 2 < w1.heap.size := (by omega))
  refine (H1.out _ (by (with_reducible (repeat' (first | exact Ext.refl _ | assumption | refine Ext.drew ?_ | refine Ext.drewN ?_ _ | refine Ext.alloc ?_ _ | refine Ext.setCell ?_ ?_ _ | refine Ext.trans ?_ (by assumption)))); all_goals (first | (simp; done) | (simp; omega)))).mono ?_
  rintro e w2 ⟨v0, far0, rfl, hb2, hv0, F0, _⟩
  obtain ⟨hc2, hf2⟩ := hb2.cells; have hz2 := hb2.size; (repeat (first | rw [World.size_alloc] at hz2 | rw [World.size_drew] at hz2)); have z2_0 : w.heap.size < w2.heap.size := (by omega); have z2_1 : w.heap.size + 1 < w2.heap.size := (by omega); have z2_2 : w.heap.size + 2 < w2.heap.size := (by omega)
  have HV0 := hide hv0.reads
  have HF0 := hide F0
  clear hv0 F0
  go_wp2_with fail
  refine (H2.out _).mono ?_
  rintro e w3 ⟨rfl, hb3⟩
  obtain ⟨hc3, hf3⟩ := hb3.cells; have hz3 := hb3.size; (repeat (first | rw [World.size_alloc] at hz3 | rw [World.size_drew] at hz3)); have z3_0 : w.heap.size < w3.heap.size := (by omega); have z3_1 : w.heap.size + 1 < w3.heap.size := (by omega); have z3_2 : w.heap.size + 2 < w3.heap.size := (by omega)
  go_wp2_with fail
  refine (HF1.out _ (by (with_reducible (repeat' (first | exact Ext.refl _ | assumption | refine Ext.drew ?_ | refine Ext.drewN ?_ _ | refine Ext.alloc ?_ _ | refine Ext.setCell ?_ ?_ _ | refine Ext.trans ?_ (by assumption)))); all_goals (first | (simp; done) | (simp; omega))) _ HF0.out).mono ?_
  rintro e wa ⟨va, rfl, hba, hva⟩
  obtain ⟨hca, hfa⟩ := hba.cells; have hza := hba.size; (repeat (first | rw [World.size_alloc] at hza | rw [World.size_drew] at hza)); have za_0 : w.heap.size < wa.heap.size := (by omega); have za_1 : w.heap.size + 1 < wa.heap.size := (by omega); have za_2 : w.heap.size + 2 < wa.heap.size := (by omega)
  have HVa := hide hva.reads
  clear hva
  go_wp2_with fail
  refine (H6.out _ _ _ _ (HV0.out.ext (by (with_reducible (repeat' (first | exact Ext.refl _ | assumption | refine Ext.drew ?_ | refine Ext.drewN ?_ _ | refine Ext.alloc ?_ _ | refine Ext.setCell ?_ ?_ _ | refine Ext.trans ?_ (by assumption)))); all_goals (first | (simp; done) | (simp; omega)))) HVa.out).mono ?_
  rintro e wb ⟨rfl, hbb⟩
  obtain ⟨hcb, hfb⟩ := hbb.cells; have hzb := hbb.size; (repeat (first | rw [World.size_alloc] at hzb | rw [World.size_drew] at hzb)); have zb_0 : w.heap.size < wb.heap.size := (by omega); have zb_1 : w.heap.size + 1 < wb.heap.size := (by omega); have zb_2 : w.heap.size + 2 < wb.heap.size := (by omega)
  go_wp2_with fail
  refine (H3.out _ (by (with_reducible (repeat' (first | exact Ext.refl _ | assumption | refine Ext.drew ?_ | refine Ext.drewN ?_ _ | refine Ext.alloc ?_ _ | refine Ext.setCell ?_ ?_ _ | refine Ext.trans ?_ (by assumption)))); all_goals (first | (simp; done) | (simp; omega)))).mono ?_
  rintro e w4 ⟨v, far, rfl, hb4, hv, F1, _⟩
  obtain ⟨hc4, hf4⟩ := hb4.cells; have hz4 := hb4.size; (repeat (first | rw [World.size_alloc] at hz4 | rw [World.size_drew] at hz4)); have z4_0 : w.heap.size < w4.heap.size := (by omega); have z4_1 : w.heap.size + 1 < w4.heap.size := (by omega); have z4_2 : w.heap.size + 2 < w4.heap.size := (by omega); have z4_3 : wb.heap.size < w4.heap.size := (by omega)
  have HV := hide hv.reads
  have HF := hide F1
  clear hv F1
  go_wp2_with fail
  refine (H4.out _).mono ?_
  rintro e w5 ⟨rfl, hb5⟩
  obtain ⟨hc5, hf5⟩ := hb5.cells; have hz5 := hb5.size; (repeat (first | rw [World.size_alloc] at hz5 | rw [World.size_drew] at hz5)); have z5_0 : w.heap.size < w5.heap.size := (by omega); have z5_1 : w.heap.size + 1 < w5.heap.size := (by omega); have z5_2 : w.heap.size + 2 < w5.heap.size := (by omega); have z5_3 : wb.heap.size < w5.heap.size := (by omega)
  go_wp2_with fail
  refine (H5.out _ (by (with_reducible (repeat' (first | exact Ext.refl _ | assumption | refine Ext.drew ?_ | refine Ext.drewN ?_ _ | refine Ext.alloc ?_ _ | refine Ext.setCell ?_ ?_ _ | refine Ext.trans ?_ (by assumption)))); all_goals (first | (simp; done) | (simp; omega))) _ HF.out).mono ?_
  rintro e w6 ⟨v2, rfl, hb6, hv2⟩
  have HV2 := hide hv2.reads
  clear hv2
  go_wp2_with fail
  refine (H6.out _ _ _ _ (HV.out.ext (by (with_reducible (repeat' (first | exact Ext.refl _ | assumption | refine Ext.drew ?_ | refine Ext.drewN ?_ _ | refine Ext.alloc ?_ _ | refine Ext.setCell ?_ ?_ _ | refine Ext.trans ?_ (by assumption)))); all_goals (first | (simp; done) | (simp; omega)))) HV2.out).mono ?_
  rintro e w7 ⟨rfl, hb7⟩
  go_wp2_with (go_at_call 34; refine (awake08_any _).mono ?_; rintro e w8 ⟨rfl, hb8⟩)
  go_ret
  exact ⟨rfl, (by (with_reducible (repeat' (first | exact Ext.refl _ | assumption | refine Ext.drew ?_ | refine Ext.drewN ?_ _ | refine Ext.alloc ?_ _ | refine Ext.setCell ?_ ?_ _ | refine Ext.trans ?_ (by assumption)))); all_goals (first | (simp; done) | (simp; omega)))⟩

theorem floodFar_any {w : World} (W H : Int) (a : Option Addr) (l : List Int) (c : Nat) (bx byy bw bh x y : Int) (hr : Row16 w a l) (hu : U16s l) (iW : InI W) (iH : InI H) (ix : InI x) (iy : InI y) :
    Calls Try.prog 9 #[.agg #[.int .i64 W, .int .i64 H, .slice a l.length c], .agg #[.int .i64 bx, .int .i64 byy, .int .i64 bw, .int .i64 bh], .agg #[.int .i64 x, .int .i64 y]] w fun e w' => e = .returned (.bool true) ∧ Ext w w' := by
  by_cases hn : (l.length : Int) ≤ 150
  · by_cases h1 : lookE W H l.length bx byy bw bh x y = 0
    · exact fd_oo c bx byy bw bh x y hr hu hn iW iH ix iy h1 (look_whole h1)
    · by_cases h2 : lookE W H l.length 0 0 W H x y = 0
      · exact fd_bo c bx byy bw bh x y hr hu hn iW iH ix iy h1 h2
      · exact fd_bb W H a l.length c bx byy bw bh x y hn iW iH ix iy h1 h2
  · exact fd_far W H a l.length c bx byy bw bh x y hn
end Go.Proofs.Ytkonojjillcfiaa
