/- A row of calls that came in. -/
import Derived.Test.YtifbmapianddcaaArgF
set_option linter.all false
set_option linter.unusedVariables false
set_option linter.unusedSimpArgs false
namespace Go.Proofs.Ytifbmapianddcaa
open Go.RowKit

def ActsAt' (w : World) (b off : Nat) (l : List (Int × Int)) : Prop := ∀ k (h : k < l.length), w.cell? ⟨b, off + k * 2, none⟩ = some (.int .i64 l[k].1) ∧ w.cell? ⟨b, off + k * 2 + 1, none⟩ = some (.int .u64 l[k].2)
/-- What came in as a row of calls. -/
def ActsV' (w : World) (v : Value) : Prop := ∃ a len cap, v = .slice a len cap ∧ len ≤ maxLen ∧ (0 < len → ∃ b off, ∃ l : List (Int × Int), a = some ⟨b, off, none⟩ ∧ b < w.heap.size ∧ l.length = len ∧ ActsAt' w b off l ∧ ∀ k (hk : k < l.length), Lit.wf (.int .u64 l[k].2) = true)

section
open Go.ChangeShapes Go.WideShapes Go.ChangeAt
variable {H : Type} {enc : TypeId × Value → H} {w : World} {r : Reach} {base b0 : Nat} {spare : Nat → Bool} {held : Bool}
set_option maxRecDepth 100000 in
theorem open_acts' {v : Value} {d : DataW H} {p : List MemPlace} (hv : Value.okWide Try.prog w r b0 79 v) (h : DataW.Trod enc Try.prog w base spare held 79 v d p) : ActsV' w v := by
  obtain ⟨a0, l0, c0, rfl⟩ := okWide_slice Try.underlying79 hv
  obtain ⟨fuel, hf⟩ := h
  rcases open_pairs2 Try.underlying79 Try.underlying87 (by kernel_rfl) ⟨rfl, rfl⟩ ⟨rfl, rfl⟩ Try.underlying3 Try.underlying38 (by kernel_rfl) (by kernel_rfl) hf with hc | ⟨a, len, cap, hc, hl, hp⟩
  · simp [Value.cells] at hc
    obtain ⟨rfl, rfl, rfl⟩ := hc
    exact ⟨none, 0, 0, rfl, Nat.zero_le _, fun h => by omega⟩
  · simp [Value.cells] at hc
    obtain ⟨rfl, rfl, rfl⟩ := hc
    refine ⟨_, _, _, rfl, hl, fun h0 => ?_⟩
    obtain ⟨b, off, l, h1, h2, h3, h4⟩ := hp h0
    exact ⟨b, off, l, h1, h2, h3, fun k hk => (h4 k hk).1, fun k hk => (h4 k hk).2.2⟩
end
end Go.Proofs.Ytifbmapianddcaa
