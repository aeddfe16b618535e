/- A row of cells that came in. -/
import Derived.Test.YtkioohhjjdlhiaaGreatHeapA
import Derived.Test.YtkioohhjjdlhiaaGreatLib
set_option linter.all false
set_option linter.unusedVariables false
set_option linter.unusedSimpArgs false
namespace Go.Proofs.YtkioohhjjdlhiaaGreat
open Go.RowKit

def RowC (w : World) (a : Option Addr) (l : List Cell) : Prop := 0 < l.length → ∃ b off, a = some ⟨b, off, none⟩ ∧ b < w.heap.size ∧ ∀ k (h : k < l.length), w.cell? ⟨b, off + k * 2, none⟩ = some (.int .i64 l[k].1) ∧ w.cell? ⟨b, off + k * 2 + 1, none⟩ = some (.int .i64 l[k].2)
theorem RowC.ext {w w' : World} {a : Option Addr} {l : List Cell} (h : RowC w a l) (e : Ext w w') : RowC w' a l := fun h0 => by
 obtain ⟨b, off, ha, hb, hc⟩ := h h0
 exact ⟨b, off, ha, Nat.lt_of_lt_of_le hb e.size, fun k hk => ⟨(e.cell (p := ⟨b, off + k * 2, none⟩) hb).trans (hc k hk).1, (e.cell (p := ⟨b, off + k * 2 + 1, none⟩) hb).trans (hc k hk).2⟩⟩
theorem RowC.touch {S : Nat → Prop} {w w' : World} {a : Option Addr} {l : List Cell} (h : RowC w a l) (t : Touch S w w') (hs : ∀ b off, a = some ⟨b, off, none⟩ → ¬ S b) : RowC w' a l := fun h0 => by
 obtain ⟨b, off, ha, hb, hc⟩ := h h0
 exact ⟨b, off, ha, Nat.lt_of_lt_of_le hb t.size, fun k hk => ⟨(t.cell (p := ⟨b, off + k * 2, none⟩) hb (hs b off ha)).trans (hc k hk).1, (t.cell (p := ⟨b, off + k * 2 + 1, none⟩) hb (hs b off ha)).trans (hc k hk).2⟩⟩
theorem RowC.reads {w : World} {a : Option Addr} {l : List Cell} (h : RowC w a l) (h0 : 0 < l.length) (c : Nat) : Reads cellE w (.slice a l.length c) l := by
 obtain ⟨b, off, rfl, hb, hc⟩ := h h0
 refine .inr ⟨b, off, c, rfl, hb, fun k p hp j u hu => ?_⟩
 obtain ⟨hk, rfl⟩ := List.getElem?_eq_some_iff.1 hp
 have h1 := hc k hk
 simp only [cellE] at hu ⊢
 match j, hu with
 | 0, hu => simp at hu; subst hu; exact h1.1
 | 1, hu => simp at hu; subst hu; exact h1.2
 | j + 2, hu => simp at hu
theorem Reads.rowC {w : World} {a : Option Addr} {n c : Nat} {l : List Cell} (h : Reads cellE w (.slice a n c) l) : n = l.length ∧ RowC w a l := by
 rcases h with ⟨hv, rfl⟩ | ⟨b, off, cap, hv, hb, hc⟩
 ·injection hv with h1 h2 _
  exact ⟨h2, fun h => by simp at h⟩
 ·injection hv with h1 h2 _
  refine ⟨h2, fun _ => ⟨b, off, h1, hb, fun k hk => ⟨?_, ?_⟩⟩⟩
  ·have := hc k l[k] (List.getElem?_eq_getElem hk) 0 (.int .i64 l[k].1) rfl
   simpa [cellE] using this
  ·have := hc k l[k] (List.getElem?_eq_getElem hk) 1 (.int .i64 l[k].2) rfl
   simpa [cellE, Nat.add_assoc] using this
/-- What came in as cells. -/
def CellsV (w : World) (a : Option Addr) (l : List Cell) : Prop := (l.length : Int) ≤ 9223372036854775807 ∧ RowC w a l ∧ ∀ p ∈ l, InI p.1 ∧ InI p.2
end Go.Proofs.YtkioohhjjdlhiaaGreat
