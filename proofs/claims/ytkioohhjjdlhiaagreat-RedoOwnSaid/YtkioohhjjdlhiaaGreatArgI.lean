/- What the statements of layer 13 are given, that came in as data: a cluster, cells of it, and one cell; parts. -/
import Derived.Test.YtkioohhjjdlhiaaGreatArgF
import Derived.Test.YtkioohhjjdlhiaaGreatRowC
set_option linter.all false
set_option linter.unusedVariables false
set_option linter.unusedSimpArgs false
namespace Go.Proofs.YtkioohhjjdlhiaaGreat
open Go.RowKit Go.ChangeShapes Go.WideShapes Go.ChangeAt
section
variable {H : Type} {enc : TypeId × Value → H} {w : World} {r : Reach} {base b0 : Nat} {spare : Nat → Bool} {held : Bool}

set_option maxRecDepth 100000 in
theorem cells_int1 : Tryz.prog.cellsOf 3 = 1 := by kernel_rfl
theorem ini_wf {n : Int} (h : (Lit.int .i64 n).wf = true) : InI n := InI_wf h

set_option maxRecDepth 100000 in
theorem open_cells {fuel : Nat} {v : Value} {x : DataW H × List MemPlace} (h : DataW.trod enc Tryz.prog w base spare held fuel 39 [v] = some x) : ∃ a c l, v = .slice a (List.length l) c ∧ CellsV w a l ∧ (a = none → c = 0) := by
 rcases open_pairs2 Tryz.underlying39 Tryz.underlying69 cells_cell ⟨rfl, rfl⟩ ⟨rfl, rfl⟩ Tryz.underlying3 Tryz.underlying3 cells_int1 cells_int1 h with hc | ⟨a, len, cap, hc, hm, hp⟩
 ·simp at hc
  subst hc
  exact ⟨none, 0, [], rfl, ⟨by simp, (fun h => by simp at h), fun p hp => by cases hp⟩, fun _ => rfl⟩
 ·simp at hc
  subst hc
  by_cases h0 : 0 < len
  ·obtain ⟨b, off, l, rfl, hb, hl, hk⟩ := hp h0
   refine ⟨_, cap, l, by rw [hl], ⟨by unfold maxLen at hm; omega, fun _ => ⟨b, off, rfl, hb, fun k hk' => (hk k hk').1⟩, fun p hp => ?_⟩, fun h => by cases h⟩
   obtain ⟨k, hkl, rfl⟩ := List.getElem_of_mem hp
   have h1 := (hk k hkl).2
   exact ⟨InI_wf h1.1, InI_wf h1.2⟩
  ·obtain rfl : len = 0 := by omega
   refine ⟨a, cap, [], rfl, ⟨by simp, (fun h => by simp at h), fun p hp => by cases hp⟩, fun ha => ?_⟩
   subst ha
   rcases Go.Deep.open_slice Tryz.underlying39 h with ⟨hc, _⟩ | ⟨a', len', cap', m, n, D, Pl, hc, _⟩
   ·simp at hc; exact hc
   ·simp at hc

set_option maxRecDepth 100000 in
theorem cells_slc : Tryz.prog.cellsOf 39 = 1 := by kernel_rfl
end
end Go.Proofs.YtkioohhjjdlhiaaGreat
