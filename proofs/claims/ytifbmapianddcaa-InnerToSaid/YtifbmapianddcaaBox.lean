/- Blocks that are known whole: how they are read, and that a box just laid is one. -/
import Derived.Test.YtifbmapianddcaaTouch
namespace Go.Proofs.Ytifbmapianddcaa
open Go.RowKit

theorem Blk.at {w : World} {g : Nat} {t : TypeId} {cs : Array Value} (h : Blk w g t cs) (i : Nat) {v : Value} (hv : cs[i]? = some v) : w.cell? ⟨g, i, none⟩ = some v := (h.cell i).trans hv
theorem Blk.new_ {w : World} {g : Nat} {t : TypeId} {cs : Array Value} (hg : g = w.heap.size) : Blk (w.alloc (.cells cs t)) g t cs := by subst hg; exact Blk.new w t cs
theorem Blk.over {w : World} {g : Nat} {t : TypeId} {cs : Array Value} {o : Obj} (h : Blk w g t cs) : Blk (w.alloc o) g t cs := h.ext ((Ext.refl w).alloc o)
theorem Blk.drew {w : World} {g : Nat} {t : TypeId} {cs : Array Value} (h : Blk w g t cs) : Blk w.drew g t cs := h
end Go.Proofs.Ytifbmapianddcaa
