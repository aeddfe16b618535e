/- Walks of the reference for gates: open, Between. -/
import Derived.Test.YtifbmapianddcaaGateC
import Derived.Test.YtifbmapianddcaaRefC
import Derived.Test.YtifbmapianddcaaLib
set_option linter.all false
set_option linter.unusedVariables false
set_option linter.unusedSimpArgs false
namespace Go.Proofs.Ytifbmapianddcaa
open Go.RowKit

theorem T_gates12 : ElemT Try.prog 111 112 (.agg #[.int .i64 0, .int .i64 0, .int .i64 0, .int .i64 0]) 4 32 := ⟨Try.underlying111, by kernel_rfl, rfl, by decide⟩
def RetGates12 (w : World) (L : List (Cell × Cell)) (e : Ending) (w' : World) : Prop := ∃ v, e = .returned v ∧ Ext w w' ∧ Own pairE w' w.heap.size 112 v L

theorem pick_refI (op : Nat → Bool) (B : List (Cell × Cell)) (i : Nat) (p : Cell × Cell) (h : B[i]? = some p) : pick B (refI op B.length (i + 1)) = pick B (refI op B.length i) ++ if midI op B.length i = true then [p] else [] := by
  rw [refI_succ]
  split
  · exact pick_snoc B _ i p h
  · simp
theorem pick_len (op : Nat → Bool) (B : List (Cell × Cell)) (i : Nat) : (pick B (refI op B.length i)).length ≤ i := by
  unfold pick refI
  refine Nat.le_trans (List.length_filterMap_le _ _) (Nat.le_trans (List.length_filter_le _ _) ?_)
  simp
end Go.Proofs.Ytifbmapianddcaa
