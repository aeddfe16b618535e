/- The walk of the chapter's example on gates. -/
import Derived.Test.YtkioohhjjdlhiaaGateD
import Derived.Test.YtkioohhjjdlhiaaLawGA
set_option linter.all false
set_option linter.unusedVariables false
set_option linter.unusedSimpArgs false
namespace Go.Proofs.Ytkioohhjjdlhiaa
open Go.RowKit

def lit12 : List Int := [1, 1, 1, 1, 1, 0, 1, 1, 1, 1, 1, 1, 1, 1, 1, 1]

theorem aw12_1 (a : Option Addr) (c : Nat) (w : World) (hr : Row16 w a lit12) : Calls Try.prog 14 #[.agg #[.int .i64 4, .int .i64 4, .slice a 16 c], .agg #[.int .i64 4, .int .i64 4, .int .i64 2], .int .i64 0, .int .i64 1] w (RetGatesE w [((1, 0), (2, 0))] 0) :=
  gtBetween_near 4 4 a lit12 c 2 0 1 w (by decide) hr (by decide) (by decide) (by decide) (by decide) (by decide) (by decide)
theorem aw12_2 (a : Option Addr) (c : Nat) (w : World) (hr : Row16 w a lit12) : Calls Try.prog 14 #[.agg #[.int .i64 4, .int .i64 4, .slice a 16 c], .agg #[.int .i64 4, .int .i64 4, .int .i64 2], .int .i64 2, .int .i64 0] w (RetGatesE w [((0, 1), (0, 2))] 0) :=
  gtBetween_near 4 4 a lit12 c 2 2 0 w (by decide) hr (by decide) (by decide) (by decide) (by decide) (by decide) (by decide)
theorem aw12_3 (a : Option Addr) (c : Nat) (w : World) (hr : Row16 w a lit12) : Calls Try.prog 14 #[.agg #[.int .i64 4, .int .i64 4, .slice a 16 c], .agg #[.int .i64 4, .int .i64 4, .int .i64 2], .int .i64 1, .int .i64 3] w (RetGatesE w [((2, 1), (2, 2))] 0) :=
  gtBetween_near 4 4 a lit12 c 2 1 3 w (by decide) hr (by decide) (by decide) (by decide) (by decide) (by decide) (by decide)

theorem lit12_row (w : World) (t : TypeId) : Row16 (w.alloc (.cells #[.int .u16 1, .int .u16 1, .int .u16 1, .int .u16 1, .int .u16 1, .int .u16 0, .int .u16 1, .int .u16 1, .int .u16 1, .int .u16 1, .int .u16 1, .int .u16 1, .int .u16 1, .int .u16 1, .int .u16 1, .int .u16 1] t)) (some ⟨w.heap.size, 0, none⟩) lit12 := by
  refine fun _ => ⟨_, 0, rfl, by simp, fun k hk => ?_⟩
  have hk' : k < 16 := hk
  match k, hk' with
  | 0, _ => simp [go_sem, lit12]
  | 1, _ => simp [go_sem, lit12]
  | 2, _ => simp [go_sem, lit12]
  | 3, _ => simp [go_sem, lit12]
  | 4, _ => simp [go_sem, lit12]
  | 5, _ => simp [go_sem, lit12]
  | 6, _ => simp [go_sem, lit12]
  | 7, _ => simp [go_sem, lit12]
  | 8, _ => simp [go_sem, lit12]
  | 9, _ => simp [go_sem, lit12]
  | 10, _ => simp [go_sem, lit12]
  | 11, _ => simp [go_sem, lit12]
  | 12, _ => simp [go_sem, lit12]
  | 13, _ => simp [go_sem, lit12]
  | 14, _ => simp [go_sem, lit12]
  | 15, _ => simp [go_sem, lit12]
  | n + 16, h => exact absurd h (by omega)

set_option maxRecDepth 100000 in
set_option maxHeartbeats 1000000 in
theorem awake12_any (w : World) : Calls Try.prog 5 #[] w fun e w' => e = .returned (.bool true) ∧ Ext w w' := by
  have HR := hide (lit12_row w 49)
  obtain ⟨w0, hw0⟩ : ∃ w0, w0 = w.alloc (.cells #[.int .u16 1, .int .u16 1, .int .u16 1, .int .u16 1, .int .u16 1, .int .u16 0, .int .u16 1, .int .u16 1, .int .u16 1, .int .u16 1, .int .u16 1, .int .u16 1, .int .u16 1, .int .u16 1, .int .u16 1, .int .u16 1] 49) := ⟨_, rfl⟩
  rw [← hw0] at HR
  have hs0 : w0.heap.size = w.heap.size + 1 := by rw [hw0]; simp
  have hx0 : Ext w w0 := by rw [hw0]; exact (by (with_reducible (repeat' (first | exact Ext.refl _ | assumption | refine Ext.drew ?_ | refine Ext.drewN ?_ _ | refine Ext.alloc ?_ _ | refine Ext.setCell ?_ ?_ _ | refine Ext.trans ?_ (by assumption)))); all_goals (first | (simp; done) | (simp; omega)))
  have HW0 := hide hw0
  clear hw0
  go_enter Try.func5, Try.ntmps5
  go_wp2_with fail
  rw [← HW0.out]
  refine (aw12_1 _ _ _ (HR.out.ext (by (with_reducible (repeat' (first | exact Ext.refl _ | assumption | refine Ext.drew ?_ | refine Ext.drewN ?_ _ | refine Ext.alloc ?_ _ | refine Ext.setCell ?_ ?_ _ | refine Ext.trans ?_ (by assumption)))); all_goals (first | (simp; done) | (simp; omega))))).mono ?_
  rintro e w1 ⟨v1, rfl, hb1, hv1⟩
  obtain ⟨hc1, hf1⟩ := hb1.cells; have hz1 := hb1.size; (repeat (first | rw [World.size_alloc] at hz1 | rw [World.size_drew] at hz1)); have z1_0 : w.heap.size + 1 < w1.heap.size := (by omega); have z1_1 : w.heap.size + 1 + 1 < w1.heap.size := (by omega); have k10 : w1.cell? ⟨w.heap.size + 1, 0, none⟩ = some (.int .i64 4) := (by rw [hc1 _ _ (by simp; omega), ← hs0] <;> simp [go_sem]); have k11 : w1.cell? ⟨w.heap.size + 1, 1, none⟩ = some (.int .i64 4) := (by rw [hc1 _ _ (by simp; omega), ← hs0] <;> simp [go_sem]); have k12 : w1.cell? ⟨w.heap.size + 1, 2, none⟩ = some (.slice (some ⟨w.heap.size, 0, none⟩) 16 16) := (by rw [hc1 _ _ (by simp; omega), ← hs0] <;> simp [go_sem]); have k20 : w1.cell? ⟨w.heap.size + 1 + 1, 0, none⟩ = some (.int .i64 4) := (by rw [hc1 _ _ (by simp; omega), ← hs0] <;> simp [go_sem]); have k21 : w1.cell? ⟨w.heap.size + 1 + 1, 1, none⟩ = some (.int .i64 4) := (by rw [hc1 _ _ (by simp; omega), ← hs0] <;> simp [go_sem]); have k22 : w1.cell? ⟨w.heap.size + 1 + 1, 2, none⟩ = some (.int .i64 2) := (by rw [hc1 _ _ (by simp; omega), ← hs0] <;> simp [go_sem]); have hx1 : Ext w0 w1 := (by (with_reducible (repeat' (first | exact Ext.refl _ | assumption | refine Ext.drew ?_ | refine Ext.drewN ?_ _ | refine Ext.alloc ?_ _ | refine Ext.setCell ?_ ?_ _ | refine Ext.trans ?_ (by assumption)))); all_goals (first | (simp; done) | (simp; omega))); clear hc1 hf1
  have hz0 : w.heap.size + 1 + 1 ≤ w1.heap.size := by omega
  have HV1 := hide hv1
  have HX1 := hide hx1
  have HX0 := hide hx0
  clear hv1 hx1 hx0 hb1 hz1 hs0 HW0
  go_wp2_with fail
  refine (aw12_2 _ _ _ (HR.out.ext HX1.out)).mono ?_
  rintro e w2 ⟨v2, rfl, hb2, hv2⟩
  obtain ⟨hc2, hf2⟩ := hb2.cells; have hz2 := hb2.size; (repeat (first | rw [World.size_alloc] at hz2 | rw [World.size_drew] at hz2)); have z2_0 : w.heap.size + 1 < w2.heap.size := (by omega); have z2_1 : w.heap.size + 1 + 1 < w2.heap.size := (by omega)
  have HV2 := hide hv2
  have HX2 := hide hb2
  clear hv2 hb2
  go_wp2_with fail
  refine (aw12_3 _ _ _ ((HR.out.ext HX1.out).ext HX2.out)).mono ?_
  rintro e w3 ⟨v3, rfl, hb3, hv3⟩
  have HV3 := hide hv3
  have HX3 := hide hb3
  clear hv3 hb3 k10 k11 k12 k20 k21 k22 hc2 hf2 hz2
  go_wp2_with fail
  refine (same12_any _ _ [((1, 0), (2, 0))] _ (by simp) (((HV1.out.reads.ext HX2.out).ext HX3.out).ext (by (with_reducible (repeat' (first | exact Ext.refl _ | assumption | refine Ext.drew ?_ | refine Ext.drewN ?_ _ | refine Ext.alloc ?_ _ | refine Ext.setCell ?_ ?_ _ | refine Ext.trans ?_ (by assumption)))); all_goals (first | (simp; done) | (simp; omega)))) (reads_lit pairE w3 _ _ [((1, 0), (2, 0))] rfl _ _ _ rfl rfl)).mono ?_
  rintro e w4 ⟨rfl, hb4⟩
  have hx4 : Ext w3 w4 := (by (with_reducible (repeat' (first | exact Ext.refl _ | assumption | refine Ext.drew ?_ | refine Ext.drewN ?_ _ | refine Ext.alloc ?_ _ | refine Ext.setCell ?_ ?_ _ | refine Ext.trans ?_ (by assumption)))); all_goals (first | (simp; done) | (simp; omega)))
  have HX4 := hide hx4
  clear hx4 hb4
  go_wp2_with fail
  refine (same12_any _ _ [((0, 1), (0, 2))] _ (by simp) (((HV2.out.reads.ext HX3.out).ext HX4.out).ext (by (with_reducible (repeat' (first | exact Ext.refl _ | assumption | refine Ext.drew ?_ | refine Ext.drewN ?_ _ | refine Ext.alloc ?_ _ | refine Ext.setCell ?_ ?_ _ | refine Ext.trans ?_ (by assumption)))); all_goals (first | (simp; done) | (simp; omega)))) (reads_lit pairE w4 _ _ [((0, 1), (0, 2))] rfl _ _ _ rfl rfl)).mono ?_
  rintro e w5 ⟨rfl, hb5⟩
  have hx5 : Ext w4 w5 := (by (with_reducible (repeat' (first | exact Ext.refl _ | assumption | refine Ext.drew ?_ | refine Ext.drewN ?_ _ | refine Ext.alloc ?_ _ | refine Ext.setCell ?_ ?_ _ | refine Ext.trans ?_ (by assumption)))); all_goals (first | (simp; done) | (simp; omega)))
  have HX5 := hide hx5
  clear hx5 hb5
  go_wp2_with fail
  refine (same12_any _ _ [((2, 1), (2, 2))] _ (by simp) (((HV3.out.reads.ext HX4.out).ext HX5.out).ext (by (with_reducible (repeat' (first | exact Ext.refl _ | assumption | refine Ext.drew ?_ | refine Ext.drewN ?_ _ | refine Ext.alloc ?_ _ | refine Ext.setCell ?_ ?_ _ | refine Ext.trans ?_ (by assumption)))); all_goals (first | (simp; done) | (simp; omega)))) (reads_lit pairE w5 _ _ [((2, 1), (2, 2))] rfl _ _ _ rfl rfl)).mono ?_
  rintro e w6 ⟨rfl, hb6⟩
  have hx6 : Ext w5 w6 := (by (with_reducible (repeat' (first | exact Ext.refl _ | assumption | refine Ext.drew ?_ | refine Ext.drewN ?_ _ | refine Ext.alloc ?_ _ | refine Ext.setCell ?_ ?_ _ | refine Ext.trans ?_ (by assumption)))); all_goals (first | (simp; done) | (simp; omega)))
  clear hb6
  go_wp2_with fail
  go_ret
  exact ⟨rfl, ((((HX0.out.trans HX1.out).trans HX2.out).trans HX3.out).trans HX4.out).trans (HX5.out.trans hx6)⟩
end Go.Proofs.Ytkioohhjjdlhiaa
