/- Plain words for the references Beside and Border: which clusters are found, which pairs. -/
import Derived.Test.YtkioohhjjdlhiaaRefC
import Derived.Test.YtkioohhjjdlhiaaPartB
set_option linter.all false
set_option linter.unusedVariables false
set_option linter.unusedSimpArgs false
namespace Go.Proofs.Ytkioohhjjdlhiaa
open Go.RowKit

def cornX (b : Cell × Cell) (d : Int) : Int := if d = 1 then b.1.1 + b.2.1 - 1 else b.1.1
def cornY (b : Cell × Cell) (d : Int) : Int := if d = 2 then b.1.2 + b.2.2 - 1 else b.1.2
def nbOf (l : List (Cell × Cell)) (b : Cell × Cell) (d : Int) : Int := fOf l (stepX (cornX b d) d) (stepY (cornY b d) d)
def nbL (l : List (Cell × Cell)) (b : Cell × Cell) (n : Nat) : List Int := (List.range n).flatMap fun d : Nat => opt (decide (0 ≤ nbOf l b d)) (nbOf l b d)
theorem nbL_succ (l : List (Cell × Cell)) (b : Cell × Cell) (n : Nat) : nbL l b (n + 1) = nbL l b n ++ opt (decide (0 ≤ nbOf l b n)) (nbOf l b n) := by
  simp [nbL, List.range_succ]
theorem nbL_len (l : List (Cell × Cell)) (b : Cell × Cell) (n : Nat) : (nbL l b n).length ≤ n := by
  induction n with
  | zero => simp [nbL]
  | succ n ih => rw [nbL_succ, List.length_append]; have := opt_len (decide (0 ≤ nbOf l b n)) (nbOf l b n); omega

theorem gidx_bd {α : Type} (p : α → Bool) (l : List α) : -1 ≤ gidx p l ∧ gidx p l < (l.length : Int) + 1 := by
  unfold gidx
  cases h : l.findIdx? p with
  | none => simp; omega
  | some i =>
    have := (List.findIdx?_eq_some_iff_getElem.1 h).1
    simp; omega

/-- What the reference's Border lays for one cell: those of its right, and lower one that are in the box. -/
def bItem (b : Cell × Cell) (x y : Int) (d : Nat) : List (Cell × Cell) := if hasP (stepX x (d : Int)) (stepY y (d : Int)) b = true then [((x, y), (stepX x (d : Int), stepY y (d : Int)))] else []
def bDirs (b : Cell × Cell) (x y : Int) (m : Nat) : List (Cell × Cell) := (List.range m).flatMap fun d => bItem b x y (d + 1)
def bRow (b : Cell × Cell) (x0 y : Int) (n : Nat) : List (Cell × Cell) := (List.range n).flatMap fun i : Nat => bDirs b (x0 + (i : Int)) y 2
def bAll (b : Cell × Cell) (x0 y0 : Int) (wd n : Nat) : List (Cell × Cell) := (List.range n).flatMap fun j : Nat => bRow b x0 (y0 + (j : Int)) wd
theorem bItem_len (b : Cell × Cell) (x y : Int) (d : Nat) : (bItem b x y d).length ≤ 1 := by unfold bItem; split <;> simp
theorem bDirs_succ (b : Cell × Cell) (x y : Int) (m : Nat) : bDirs b x y (m + 1) = bDirs b x y m ++ bItem b x y (m + 1) := by simp [bDirs, List.range_succ]
theorem bRow_succ (b : Cell × Cell) (x0 y : Int) (n : Nat) : bRow b x0 y (n + 1) = bRow b x0 y n ++ bDirs b (x0 + (n : Int)) y 2 := by simp [bRow, List.range_succ]
theorem bAll_succ (b : Cell × Cell) (x0 y0 : Int) (wd n : Nat) : bAll b x0 y0 wd (n + 1) = bAll b x0 y0 wd n ++ bRow b x0 (y0 + (n : Int)) wd := by simp [bAll, List.range_succ]
theorem bDirs_len (b : Cell × Cell) (x y : Int) (m : Nat) : (bDirs b x y m).length ≤ m := by
  induction m with
  | zero => simp [bDirs]
  | succ n ih => rw [bDirs_succ, List.length_append]; have := bItem_len b x y (n + 1); omega
theorem bRow_len (b : Cell × Cell) (x0 y : Int) (n : Nat) : (bRow b x0 y n).length ≤ 2 * n := by
  induction n with
  | zero => simp [bRow]
  | succ n ih => rw [bRow_succ, List.length_append]; have := bDirs_len b (x0 + (n : Int)) y 2; omega
theorem bAll_len (b : Cell × Cell) (x0 y0 : Int) (wd n : Nat) : (bAll b x0 y0 wd n).length ≤ 2 * wd * n := by
  induction n with
  | zero => simp [bAll]
  | succ n ih => rw [bAll_succ, List.length_append, Nat.mul_succ]; have := bRow_len b x0 (y0 + (n : Int)) wd; omega
theorem opt_yes {α : Type} (L : List Int) {M : Int} (h : 0 ≤ M) (f : List Int → α) : f (L ++ opt (decide (0 ≤ M)) M) = f (L ++ [M]) := by simp [opt, h]
theorem opt_no {α : Type} (L : List Int) {M : Int} (h : M < 0) (f : List Int → α) : f (L ++ opt (decide (0 ≤ M)) M) = f L := by
  have h' : ¬ 0 ≤ M := by omega
  simp [opt, h']
end Go.Proofs.Ytkioohhjjdlhiaa
