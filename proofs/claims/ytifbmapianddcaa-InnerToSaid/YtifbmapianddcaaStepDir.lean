/- A step, as a place beside one. -/
import Derived.Test.YtifbmapianddcaaFloodN
namespace Go.Proofs.Ytifbmapianddcaa
open Go.RowKit

theorem step_dir {k : Nat} (hk : k < 4) (x y : Int) : stepX x (k : Int) = x + dirX k ∧ stepY y (k : Int) = y + dirY k := by
  obtain rfl | rfl | rfl | rfl : k = 0 ∨ k = 1 ∨ k = 2 ∨ k = 3 := by omega
  all_goals (constructor <;> simp [stepX, stepY, dirX, dirY] <;> omega)
end Go.Proofs.Ytifbmapianddcaa
