/- A cell's place, as a cell. -/
import Derived.Test.YtkioohhjjdlhiaaGreatCellsF
import Derived.Stop.RegionWithIn
import Derived.Shelf.Abstract
set_option linter.all false
set_option linter.unusedVariables false
set_option linter.unusedSimpArgs false
namespace Go.Proofs.YtkioohhjjdlhiaaGreat
open Go.RowKit

def cellV (W : Int) (v : Nat) : Cell := (vx W v, vy W v)

theorem Row16.touch {S : Nat → Prop} {w w' : World} {a : Option Addr} {l : List Int} (h : Row16 w a l) (e : Touch S w w') (hs : ∀ b off, a = some ⟨b, off, none⟩ → ¬ S b) : Row16 w' a l := fun h0 => by
  obtain ⟨b, off, ha, hb, hc⟩ := h h0
  exact ⟨b, off, ha, Nat.lt_of_lt_of_le hb e.size, fun k hk => (e.cell (p := ⟨b, off + k, none⟩) hb (hs b off ha)).trans (hc k hk)⟩

end Go.Proofs.YtkioohhjjdlhiaaGreat
