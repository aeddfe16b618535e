/- Several cells at once. -/
import Derived.Test.YtifbmapianddcaaBox
namespace Go.Proofs.Ytifbmapianddcaa
open Go.RowKit

/-- What these cells hold. -/
def CellsAt : List (Addr × Value) → World → Prop
  | [], _ => True
  | p :: r, w => w.cell? p.1 = some p.2 ∧ CellsAt r w
theorem CellsAt.ext {w w' : World} (hx : Ext w w') : ∀ {L : List (Addr × Value)}, CellsAt L w → CellsAt L w'
  | [], _ => trivial
  | p :: _, h => ⟨(hx.cell (p := p.1) (World.block_lt_of_cell? w p.1 h.1)).trans h.1, CellsAt.ext hx h.2⟩
theorem CellsAt.touch {S : Nat → Prop} {w w' : World} (t : Touch S w w') : ∀ {L : List (Addr × Value)}, (∀ p ∈ L, ¬ S p.1.block) → CellsAt L w → CellsAt L w'
  | [], _, _ => trivial
  | p :: _, hs, h => ⟨(t.cell (p := p.1) (World.block_lt_of_cell? w p.1 h.1) (hs p List.mem_cons_self)).trans h.1, CellsAt.touch t (fun q hq => hs q (List.mem_cons_of_mem _ hq)) h.2⟩
theorem CellsAt.set {w : World} {a : Addr} {v : Value} : ∀ {L : List (Addr × Value)}, (∀ p ∈ L, p.1 ≠ a) → CellsAt L w → CellsAt L (w.setCell a v)
  | [], _, _ => trivial
  | p :: _, hs, h => ⟨(World.cell?_setCell_other w a p.1 v (fun e => hs p List.mem_cons_self e.symm)).trans h.1, CellsAt.set (fun q hq => hs q (List.mem_cons_of_mem _ hq)) h.2⟩
end Go.Proofs.Ytifbmapianddcaa
