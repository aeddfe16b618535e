/- The walk of the reference's Border: the pairs of cells beside one another of two clusters. -/
import Derived.Test.YtifbmapianddcaaRefP
set_option linter.all false
set_option linter.unusedVariables false
set_option linter.unusedSimpArgs false
namespace Go.Proofs.Ytifbmapianddcaa
open Go.RowKit

theorem bDirs_next (b : Cell × Cell) (x y : Int) (m : Nat) : bDirs b x y (m + 1) = bDirs b x y m ++ if hasP (stepX x ((m : Int) + 1)) (stepY y ((m : Int) + 1)) b = true then [((x, y), (stepX x ((m : Int) + 1), stepY y ((m : Int) + 1)))] else [] := by
  rw [bDirs_succ]; simp [bItem]
theorem step_near (x y d : Int) : x - 1 ≤ stepX x d ∧ stepX x d ≤ x + 1 ∧ y - 1 ≤ stepY y d ∧ stepY y d ≤ y + 1 := by
  unfold stepX stepY
  (repeat' split) <;> omega

theorem Below.drewN' {q : Nat} {a b : World} (h : Below q a b) (n : Nat) : Below q a (b.drewN n) := ⟨h.os, h.tape, h.output, h.size, fun k hk => h.block k hk⟩
theorem Own.drewN {α : Type} {E : Enc α} {w : World} {base : Nat} {e : TypeId} {v : Value} {l : List α} (h : Own E w base e v l) (n : Nat) : Own E (w.drewN n) base e v l := h

def RetPairs1 (w : World) (L : List (Cell × Cell)) (e : Ending) (w' : World) : Prop := ∃ v, e = .returned v ∧ Ext w w' ∧ Own pairE w' w.heap.size 208 v L
end Go.Proofs.Ytifbmapianddcaa
