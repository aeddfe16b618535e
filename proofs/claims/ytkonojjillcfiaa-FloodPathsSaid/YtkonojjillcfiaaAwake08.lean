/- The example of chapter 08. -/
import Derived.Test.YtkonojjillcfiaaFloodI
namespace Go.Proofs.Ytkonojjillcfiaa
open Go.RowKit

def aw : List Int := [1, 2, 1, 1, 9, 1]
theorem aw_look : lookE 3 2 aw.length 0 0 3 2 0 0 = 0 := by decide +kernel
theorem aw_u16 : U16s aw := by intro x hx; simp [aw] at hx; omega
def awN : Net := mapNet (landP_of aw_look aw_u16)
def awF (v : Nat) : Int := [0, 2, 3, 1, 10, 4].getD v infI

theorem aw_big {v : Nat} (h : 6 ≤ v) : awF v = infI := by
  unfold awF
  rw [List.getD_eq_getElem?_getD, List.getElem?_eq_none (by simpa using h)]
  rfl
theorem aw_op : ∀ v, v < 6 → awN.op v = true := by decide +kernel
theorem aw_near : ∀ v, v < 6 → v ≠ 0 → ∀ u ∈ awN.adj v, awF v ≤ awF u + awN.cost v := by decide +kernel
theorem aw_from : ∀ v, v < 6 → v ≠ 0 → ∃ u ∈ awN.adj v, awN.op u = true ∧ awF u + awN.cost v = awF v := by decide +kernel
theorem aw_all : ∀ v, v < 6 → 0 ≤ awF v ∧ awF v ≤ infI := by decide +kernel
theorem aw_lt {v : Nat} (h : awN.op v = true) : v < 6 := awN.lt v h
theorem aw_far : IsFar awN 0 awF where
  start _ := rfl
  shut v hv := aw_big (by
    by_cases h : v < 6
    · rw [aw_op v h] at hv; cases hv
    · omega)
  nn v := by
    by_cases h : v < 6
    · exact (aw_all v h).1
    · rw [aw_big (by omega)]; decide
  le v := by
    by_cases h : v < 6
    · exact (aw_all v h).2
    · rw [aw_big (by omega)]; exact Int.le_refl _
  near v hv h0 u hu _ _ := aw_near v (aw_lt hv) h0 u hu
  from_ v hv h0 _ := by
    obtain ⟨u, h1, h2, h3⟩ := aw_from v (aw_lt hv) h0
    exact ⟨u, h1, h2, h3⟩
theorem aw_n1 : nextV awN awF 5 = some 2 := by decide +kernel
theorem aw_n2 : nextV awN awF 2 = some 1 := by decide +kernel
theorem aw_n3 : nextV awN awF 1 = some 0 := by decide +kernel
theorem aw_back : BackP awN awF 5 [5, 2, 1, 0] := .step (by decide) aw_n1 (.step (by decide) aw_n2 (.step (by decide) aw_n3 (.done rfl)))

theorem aw_row {w : World} {b : Nat} (h : w.heap[b]? = some (.cells #[.int .u16 1, .int .u16 2, .int .u16 1, .int .u16 1, .int .u16 9, .int .u16 1] 70 (0, 0))) : Row16 w (some ⟨b, 0, none⟩) aw := fun _ => by
  refine ⟨b, 0, rfl, (Array.getElem?_eq_some_iff.1 h).1, fun k hk => ?_⟩
  have hk6 : k < 6 := hk
  obtain rfl | rfl | rfl | rfl | rfl | rfl : k = 0 ∨ k = 1 ∨ k = 2 ∨ k = 3 ∨ k = 4 ∨ k = 5 := by omega
  all_goals (simp [World.cell?, h, aw])

set_option maxRecDepth 100000 in
theorem awake08_any (w : World) : Calls Try.prog 34 #[] w fun e w' => e = .returned (.bool true) ∧ Ext w w' := by
  have HF := hide (fun (w' : World) (a : Option Addr) (hr : Row16 w' a aw) => fFrom_ok (x := 0) (y := 0) 6 aw_look hr aw_u16)
  have HP := hide (fun (w' : World) (a : Option Addr) (hr : Row16 w' a aw) => fPath_at (x := 0) (y := 0) 6 2 1 aw_look hr aw_u16 (by decide +kernel))
  go_enter Try.func34, Try.ntmps34
  go_wp2_with fail
  obtain ⟨w0, hw0⟩ : ∃ w0, w0 = (w.alloc (.cells #[.int .u16 1, .int .u16 2, .int .u16 1, .int .u16 1, .int .u16 9, .int .u16 1] 70)).alloc (.cells #[.int .i64 3, .int .i64 2, .slice (some ⟨w.heap.size, 0, none⟩) 6 6] 26) := ⟨_, rfl⟩
  have hx0 : Ext w w0 := by rw [hw0]; exact (by (with_reducible (repeat' (first | exact Ext.refl _ | assumption | refine Ext.drew ?_ | refine Ext.drewN ?_ _ | refine Ext.alloc ?_ _ | refine Ext.setCell ?_ ?_ _ | refine Ext.trans ?_ (by assumption)))); all_goals (first | (simp; done) | (simp; omega)))
  have row0 : Row16 w0 (some ⟨w.heap.size, 0, none⟩) aw := aw_row (by rw [hw0, ((Ext.refl (w.alloc _)).alloc _).block (by simp)]; exact heap_new _ _)
  have k0 : w0.cell? ⟨w.heap.size + 1, 0, none⟩ = some (.int .i64 3) := by rw [hw0]; simp [go_sem]
  have k1 : w0.cell? ⟨w.heap.size + 1, 1, none⟩ = some (.int .i64 2) := by rw [hw0]; simp [go_sem]
  have k2 : w0.cell? ⟨w.heap.size + 1, 2, none⟩ = some (.slice (some ⟨w.heap.size, 0, none⟩) 6 6) := by rw [hw0]; simp [go_sem]
  have z0 : w.heap.size + 1 < w0.heap.size := by rw [hw0]; simp
  have ROW := hide row0
  rw [← hw0]
  clear hw0 row0
  refine (HF.out w0 _ ROW.out).mono ?_
  rintro e w1 ⟨v1, far1, rfl, hx1, hv1, F1, _⟩
  obtain rfl : far1 = awF := funext fun v => IsFar.same (show IsFar awN 0 far1 from F1) aw_far v
  have HV1 := hide (show Own u64E w1 w0.heap.size 53 v1 [0, 2, 3, 1, 10, 4] from hv1)
  have j0 := (hx1.cell (p := ⟨w.heap.size + 1, 0, none⟩) z0).trans k0
  have j1 := (hx1.cell (p := ⟨w.heap.size + 1, 1, none⟩) z0).trans k1
  have j2 := (hx1.cell (p := ⟨w.heap.size + 1, 2, none⟩) z0).trans k2
  have HX1 := hide (hx0.trans hx1)
  have ROW1 := hide (ROW.out.ext hx1)
  clear k0 k1 k2 hx0 hx1 hv1 F1 z0
  go_wp2_with fail
  refine (HP.out w1 _ ROW1.out).mono ?_
  rintro e w2 ⟨far2, F2, _, hx2, hcase⟩
  obtain rfl : far2 = awF := funext fun v => IsFar.same (show IsFar awN 0 far2 from F2) aw_far v
  have e5 : idxN 3 (2, 1) = 5 := by decide
  have e4 : awF 5 = 4 := by decide
  rw [e5, e4] at hcase
  rcases hcase with ⟨h, _⟩ | ⟨_, v2, p, rfl, hbp, hv2⟩
  · exact absurd h (by decide)
  · obtain rfl : p = [5, 2, 1, 0] := BackP.one (show BackP awN awF 5 p from hbp) aw_back
    have HV2 := hide (show Own cellE w2 w1.heap.size 49 v2 [(0, 0), (1, 0), (2, 0), (2, 1)] from hv2)
    have HV12 := hide (HV1.out.ext hx2)
    have HX2 := hide (HX1.out.trans hx2)
    clear hbp hv2 hx2 e5 e4 F2 HF HP
    go_wp2_with fail
    refine (same08_any (l := [0, 2, 3, 1, 10, 4]) (by decide) (by decide) (Own.reads (HV12.out.ext (by (with_reducible (repeat' (first | exact Ext.refl _ | assumption | refine Ext.drew ?_ | refine Ext.drewN ?_ _ | refine Ext.alloc ?_ _ | refine Ext.setCell ?_ ?_ _ | refine Ext.trans ?_ (by assumption)))); all_goals (first | (simp; done) | (simp; omega))))) (reads_lit u64E _ _ _ _ rfl _ _ _ rfl rfl)).mono ?_
    rintro e w3 ⟨rfl, hx3⟩
    have hx23 : Ext w2 w3 := (by (with_reducible (repeat' (first | exact Ext.refl _ | assumption | refine Ext.drew ?_ | refine Ext.drewN ?_ _ | refine Ext.alloc ?_ _ | refine Ext.setCell ?_ ?_ _ | refine Ext.trans ?_ (by assumption)))); all_goals (first | (simp; done) | (simp; omega)))
    have HV3 := hide (HV2.out.ext hx23)
    have HX3 := hide (HX2.out.trans hx23)
    clear hx3 hx23
    go_wp2_with fail
    refine (cells08_any (l := [(0, 0), (1, 0), (2, 0), (2, 1)]) (by decide) (by decide) (Own.reads (HV3.out.ext (by (with_reducible (repeat' (first | exact Ext.refl _ | assumption | refine Ext.drew ?_ | refine Ext.drewN ?_ _ | refine Ext.alloc ?_ _ | refine Ext.setCell ?_ ?_ _ | refine Ext.trans ?_ (by assumption)))); all_goals (first | (simp; done) | (simp; omega))))) (reads_lit cellE _ _ _ _ rfl _ _ _ rfl rfl)).mono ?_
    rintro e w4 ⟨rfl, hx4⟩
    have hx34 : Ext w3 w4 := (by (with_reducible (repeat' (first | exact Ext.refl _ | assumption | refine Ext.drew ?_ | refine Ext.drewN ?_ _ | refine Ext.alloc ?_ _ | refine Ext.setCell ?_ ?_ _ | refine Ext.trans ?_ (by assumption)))); all_goals (first | (simp; done) | (simp; omega)))
    clear hx4
    go_wp2
    go_ret
    exact ⟨rfl, HX3.out.trans hx34⟩
end Go.Proofs.Ytkonojjillcfiaa
