/- Plain words for the cluster of a cell that is looked for. -/
import Derived.Test.YtifbmapianddcaaRefC
import Derived.Test.YtifbmapianddcaaRefBp
namespace Go.Proofs.Ytifbmapianddcaa
open Go.RowKit

def gidx {α : Type} (p : α → Bool) (l : List α) : Int := match l.findIdx? p with
  | some i => i
  | none => -1
theorem gidx_at {α : Type} {p : α → Bool} {l : List α} {k : Nat} (hk : k < l.length) (h : ∀ j (hj : j < k), p (l[j]'(by omega)) = false) (hp : p l[k] = true) : gidx p l = k := by
  have : l.findIdx? p = some k := by
    rw [List.findIdx?_eq_some_iff_getElem]
    exact ⟨hk, hp, fun j hj => by simpa using h j hj⟩
  simp [gidx, this]
theorem gidx_none {α : Type} {p : α → Bool} {l : List α} (h : ∀ j (hj : j < l.length), p l[j] = false) : gidx p l = -1 := by
  have : l.findIdx? p = none := by
    rw [List.findIdx?_eq_none_iff]
    intro x hx
    obtain ⟨j, hj, rfl⟩ := List.getElem_of_mem hx
    exact h j hj
  simp [gidx, this]

theorem Own.pos {α : Type} {E : Enc α} {w : World} {base : Nat} {e : TypeId} {v : Value} {l : List α} (h : Own E w base e v l) (hl : 0 < l.length) : ∃ g c, v = .slice (some ⟨g, 0, none⟩) l.length c ∧ base ≤ g ∧ g < w.heap.size := by
  rcases h.2 with ⟨_, hn⟩ | ⟨g, cap, cur, hv, hb, hg, _⟩
  · omega
  · exact ⟨g, cap, hv, hb, lt_of_block hg⟩
theorem Reads.pair_at {w : World} {g n c : Nat} {l : List (Cell × Cell)} (h : Reads pairE w (.slice (some ⟨g, 0, none⟩) n c) l) {k : Nat} {p : Cell × Cell} (hk : l[k]? = some p) :
    w.cell? ⟨g, k * 4, none⟩ = some (.int .i64 p.1.1) ∧ w.cell? ⟨g, k * 4 + 1, none⟩ = some (.int .i64 p.1.2) ∧ w.cell? ⟨g, k * 4 + 2, none⟩ = some (.int .i64 p.2.1) ∧ w.cell? ⟨g, k * 4 + 3, none⟩ = some (.int .i64 p.2.2) := by
  have hlt := (List.getElem?_eq_some_iff.1 hk).1
  have := h.pairs.2 k hlt
  rw [List.getElem?_eq_getElem hlt] at hk
  have hk' := Option.some.inj hk
  rw [hk'] at this
  simpa using this

def hasP (x y : Int) (b : Cell × Cell) : Bool := hasB b.1.1 b.1.2 b.2.1 b.2.2 x y
def fOf (l : List (Cell × Cell)) (x y : Int) : Int := gidx (hasP x y) l

def NonNeg (l : List (Cell × Cell)) : Prop := ∀ k (h : k < l.length), 0 ≤ l[k].1.1 ∧ 0 ≤ l[k].1.2

theorem PairsAt.below {w w' : World} {b off : Nat} {l : List (Cell × Cell)} (h : PairsAt w b off l) {B : Nat} (hb : b < B) (he : Below B w w') : PairsAt w' b off l :=
  fun k hk => ⟨(he.cell (p := ⟨b, _, none⟩) hb).trans (h k hk).1, (he.cell (p := ⟨b, _, none⟩) hb).trans (h k hk).2.1, (he.cell (p := ⟨b, _, none⟩) hb).trans (h k hk).2.2.1, (he.cell (p := ⟨b, _, none⟩) hb).trans (h k hk).2.2.2⟩
end Go.Proofs.Ytifbmapianddcaa
