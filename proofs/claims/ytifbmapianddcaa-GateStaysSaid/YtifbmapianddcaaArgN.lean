/- A row of numbers that came in. -/
import Derived.Test.YtifbmapianddcaaArgF
set_option linter.all false
set_option linter.unusedVariables false
set_option linter.unusedSimpArgs false
namespace Go.Proofs.Ytifbmapianddcaa
open Go.RowKit

/-- What came in as a row of numbers. -/
def IntsV (w : World) (a : Option Addr) (n : Nat) : Prop := 0 < n → ∃ b off, ∃ zs : List Int, a = some ⟨b, off, none⟩ ∧ b < w.heap.size ∧ zs.length = n ∧ IntsAt w b off zs ∧ ∀ z ∈ zs, InI z

section
open Go.ChangeShapes Go.WideShapes Go.ChangeAt
variable {H : Type} {enc : TypeId × Value → H} {w : World} {r : Reach} {base b0 : Nat} {spare : Nat → Bool} {held : Bool}
set_option maxRecDepth 100000 in
theorem cells_intG : Try.prog.cellsOf 3 = 1 := by kernel_rfl
set_option maxRecDepth 100000 in
theorem open_intsV {v : Value} {d : DataW H} {p : List MemPlace} (hv : Value.okWide Try.prog w r b0 101 v) (h : DataW.Trod enc Try.prog w base spare held 101 v d p) : ∃ a n c, v = .slice a n c ∧ IntsV w a n := by
  obtain ⟨a0, l0, c0, rfl⟩ := okWide_slice Try.underlying101 hv
  obtain ⟨fuel, hf⟩ := h
  rcases open_ints Try.underlying101 Try.underlying3 cells_intG hf with ⟨hc, _⟩ | ⟨ad, len, cap, zs, hc, _, hl, hm, hz, _, hcell, hwz⟩
  · simp [Value.cells] at hc
    obtain ⟨rfl, rfl, rfl⟩ := hc
    exact ⟨_, _, _, rfl, fun h => by omega⟩
  · have hzl : len ≤ zs.length := by rw [hz]; split <;> omega
    simp [Value.cells] at hc
    obtain ⟨rfl, rfl, rfl⟩ := hc
    refine ⟨_, _, _, rfl, fun h0 => ?_⟩
    obtain ⟨b, off, spot⟩ := ad
    have z0 := hcell 0 (by omega)
    have hspot : spot = none := by simpa [Addr.add] using World.cell?_spot z0
    subst hspot
    have z0' : w.cell? ⟨b, off, none⟩ = some (.int .i64 (zs.getD 0 0)) := by simpa [Addr.add] using z0
    refine ⟨b, off, zs.take l0, rfl, World.block_lt_of_cell? w _ z0', by rw [List.length_take]; omega, fun k hk => ?_, fun z hz => ?_⟩
    · rw [List.length_take] at hk
      have := hcell k (by omega)
      rw [Addr.add_lit] at this
      rw [this]
      have hk' : k < zs.length := by omega
      simp [List.getD_eq_getElem?_getD, hk']
    · exact InI_wf (hwz z (List.mem_of_mem_take hz))
end
end Go.Proofs.Ytifbmapianddcaa
