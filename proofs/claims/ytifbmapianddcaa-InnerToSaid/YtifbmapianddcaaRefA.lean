/- Walks of the references' plain functions: Right, Has, Step, Fits. -/
import Derived.Test.YtifbmapianddcaaPartA
namespace Go.Proofs.Ytifbmapianddcaa
open Go.RowKit

theorem rRight_any (W H s : Int) (w : World) :
    Calls Try.prog 60 #[.agg #[.int .i64 W, .int .i64 H], .int .i64 s] w fun e w' => e = .returned (.bool (rightB W H s)) ∧ Ext w w' := by
  go_enter Try.func60, Try.ntmps60
  go_wp2
  all_goals go_ret
  all_goals exact ⟨by simp [rightB, mayB, betw] <;> omega, (by (with_reducible (repeat' (first | exact Ext.refl _ | assumption | refine Ext.drew ?_ | refine Ext.drewN ?_ _ | refine Ext.alloc ?_ _ | refine Ext.setCell ?_ ?_ _ | refine Ext.trans ?_ (by assumption)))); all_goals (first | (simp; done) | (simp; omega)))⟩

def hasB (bx byy bw bh x y : Int) : Bool := decide (bx ≤ x) && decide (byy ≤ y) && decide (x - bx < bw) && decide (y - byy < bh)

theorem hasB_true {bx byy bw bh x y : Int} : hasB bx byy bw bh x y = true ↔ bx ≤ x ∧ x < bx + bw ∧ byy ≤ y ∧ y < byy + bh := by
  simp only [hasB, Bool.and_eq_true, decide_eq_true_eq]; omega

def InI (x : Int) : Prop := -9223372036854775808 ≤ x ∧ x ≤ 9223372036854775807

set_option maxHeartbeats 1000000 in
theorem rHas_any (bx byy bw bh x y : Int) (w : World) (h1 : 0 ≤ bx) (h2 : 0 ≤ byy) (hx : InI x) (hy : InI y) :
    Calls Try.prog 33 #[.agg #[.int .i64 bx, .int .i64 byy, .int .i64 bw, .int .i64 bh], .agg #[.int .i64 x, .int .i64 y]] w fun e w' => e = .returned (.bool (hasB bx byy bw bh x y)) ∧ Ext w w' := by
  unfold InI at hx hy
  go_enter Try.func33, Try.ntmps33
  go_wp2
  all_goals go_ret
  all_goals exact ⟨by simp [hasB] <;> omega, (by (with_reducible (repeat' (first | exact Ext.refl _ | assumption | refine Ext.drew ?_ | refine Ext.drewN ?_ _ | refine Ext.alloc ?_ _ | refine Ext.setCell ?_ ?_ _ | refine Ext.trans ?_ (by assumption)))); all_goals (first | (simp; done) | (simp; omega)))⟩

def fitsR (W H bx byy bw bh : Int) : Bool :=
  decide (0 ≤ bx) && decide (0 ≤ byy) && decide (1 ≤ bw) && decide (1 ≤ bh) && decide (bx < W) && decide (byy < H) && decide (bw ≤ W - bx) && decide (bh ≤ H - byy)

def stepX (x dir : Int) : Int := if dir = 1 then x + 1 else if dir = 3 then x - 1 else x
def stepY (y dir : Int) : Int := if dir = 0 then y - 1 else if dir = 2 then y + 1 else y

set_option maxHeartbeats 1000000 in
theorem rStep_any (x y dir : Int) (w : World) (hx : -4611686018427387904 ≤ x ∧ x ≤ 4611686018427387904) (hy : -4611686018427387904 ≤ y ∧ y ≤ 4611686018427387904) :
    Calls Try.prog 129 #[.agg #[.int .i64 x, .int .i64 y], .int .i64 dir] w fun e w' => e = .returned (.agg #[.int .i64 (stepX x dir), .int .i64 (stepY y dir)]) ∧ Ext w w' := by
  by_cases d0 : dir = 0
  · subst d0
    go_enter Try.func129, Try.ntmps129
    go_wp2
    exact bodyPost_ret (v := .agg #[.int .i64 x, .int .i64 (y - 1)]) (by simp [results, Try.results129, go_sem, *]) rfl ⟨rfl, (by (with_reducible (repeat' (first | exact Ext.refl _ | assumption | refine Ext.drew ?_ | refine Ext.drewN ?_ _ | refine Ext.alloc ?_ _ | refine Ext.setCell ?_ ?_ _ | refine Ext.trans ?_ (by assumption)))); all_goals (first | (simp; done) | (simp; omega)))⟩
  · by_cases d1 : dir = 1
    · subst d1
      go_enter Try.func129, Try.ntmps129
      go_wp2
      exact bodyPost_ret (v := .agg #[.int .i64 (x + 1), .int .i64 y]) (by simp [results, Try.results129, go_sem, *]) rfl ⟨rfl, (by (with_reducible (repeat' (first | exact Ext.refl _ | assumption | refine Ext.drew ?_ | refine Ext.drewN ?_ _ | refine Ext.alloc ?_ _ | refine Ext.setCell ?_ ?_ _ | refine Ext.trans ?_ (by assumption)))); all_goals (first | (simp; done) | (simp; omega)))⟩
    · by_cases d2 : dir = 2
      · subst d2
        go_enter Try.func129, Try.ntmps129
        go_wp2
        exact bodyPost_ret (v := .agg #[.int .i64 x, .int .i64 (y + 1)]) (by simp [results, Try.results129, go_sem, *]) rfl ⟨rfl, (by (with_reducible (repeat' (first | exact Ext.refl _ | assumption | refine Ext.drew ?_ | refine Ext.drewN ?_ _ | refine Ext.alloc ?_ _ | refine Ext.setCell ?_ ?_ _ | refine Ext.trans ?_ (by assumption)))); all_goals (first | (simp; done) | (simp; omega)))⟩
      · by_cases d3 : dir = 3
        · subst d3
          go_enter Try.func129, Try.ntmps129
          go_wp2
          exact bodyPost_ret (v := .agg #[.int .i64 (x - 1), .int .i64 y]) (by simp [results, Try.results129, go_sem, *]) rfl ⟨rfl, (by (with_reducible (repeat' (first | exact Ext.refl _ | assumption | refine Ext.drew ?_ | refine Ext.drewN ?_ _ | refine Ext.alloc ?_ _ | refine Ext.setCell ?_ ?_ _ | refine Ext.trans ?_ (by assumption)))); all_goals (first | (simp; done) | (simp; omega)))⟩
        · have e1 : stepX x dir = x := by unfold stepX; rw [if_neg d1, if_neg d3]
          have e2 : stepY y dir = y := by unfold stepY; rw [if_neg d0, if_neg d2]
          rw [e1, e2]
          clear e1 e2
          go_enter Try.func129, Try.ntmps129
          go_wp2
          exact bodyPost_ret (v := .agg #[.int .i64 x, .int .i64 y]) (by simp [results, Try.results129, go_sem, *]) rfl ⟨rfl, (by (with_reducible (repeat' (first | exact Ext.refl _ | assumption | refine Ext.drew ?_ | refine Ext.drewN ?_ _ | refine Ext.alloc ?_ _ | refine Ext.setCell ?_ ?_ _ | refine Ext.trans ?_ (by assumption)))); all_goals (first | (simp; done) | (simp; omega)))⟩

def smallB (W H s : Int) : Bool := rightB W H s && decide (W * H ≤ 400)
theorem smallB_true {W H s : Int} : smallB W H s = true ↔ rightB W H s = true ∧ W * H ≤ 400 := by simp [smallB]
end Go.Proofs.Ytifbmapianddcaa
