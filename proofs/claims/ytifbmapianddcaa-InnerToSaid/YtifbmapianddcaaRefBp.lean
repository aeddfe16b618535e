/- Pairs of cells that lie in a row. -/
import Derived.Test.YtifbmapianddcaaPartE
namespace Go.Proofs.Ytifbmapianddcaa
open Go.RowKit

def PairsAt (w : World) (b off : Nat) (l : List (Cell × Cell)) : Prop := ∀ k (h : k < l.length), w.cell? ⟨b, off + k * 4, none⟩ = some (.int .i64 l[k].1.1) ∧ w.cell? ⟨b, off + k * 4 + 1, none⟩ = some (.int .i64 l[k].1.2) ∧ w.cell? ⟨b, off + k * 4 + 2, none⟩ = some (.int .i64 l[k].2.1) ∧ w.cell? ⟨b, off + k * 4 + 3, none⟩ = some (.int .i64 l[k].2.2)

theorem PairsAt.ext {w w' : World} {b off : Nat} {l : List (Cell × Cell)} (h : PairsAt w b off l) (hb : b < w.heap.size) (he : Ext w w') : PairsAt w' b off l :=
  fun k hk => ⟨(he.cell (p := ⟨b, _, none⟩) hb).trans (h k hk).1, (he.cell (p := ⟨b, _, none⟩) hb).trans (h k hk).2.1, (he.cell (p := ⟨b, _, none⟩) hb).trans (h k hk).2.2.1, (he.cell (p := ⟨b, _, none⟩) hb).trans (h k hk).2.2.2⟩
theorem Reads.pairs {w : World} {b off cap : Nat} {n : Nat} {l : List (Cell × Cell)} (h : Reads pairE w (.slice (some ⟨b, off, none⟩) n cap) l) : b < w.heap.size ∧ PairsAt w b off l := by
  rcases h with ⟨hv, _⟩ | ⟨b', off', cap', hv, hb, hc⟩
  · simp at hv
  · simp only [Value.slice.injEq, Option.some.injEq, Addr.mk.injEq] at hv
    obtain ⟨⟨rfl, rfl, _⟩, _, _⟩ := hv
    refine ⟨hb, fun k hk => ?_⟩
    have h0 := hc k l[k] (List.getElem?_eq_getElem hk)
    exact ⟨h0 0 _ rfl, h0 1 _ rfl, h0 2 _ rfl, h0 3 _ rfl⟩
end Go.Proofs.Ytifbmapianddcaa
