/- A run of stores, as it stands in memory. -/
import Derived.Test.YtifbmapianddcaaTouch
namespace Go.Proofs.Ytifbmapianddcaa
open Go.RowKit

theorem setCells_at (b : Nat) (t : TypeId) : ∀ (vs : List Value) (o : Nat) (w : World) (cur : Array Value), w.heap[b]? = some (.cells cur t (0, 0)) → o + vs.length ≤ cur.size →
    ∃ cur' : Array Value, (w.setCells b o vs).heap[b]? = some (.cells cur' t (0, 0)) ∧ cur'.size = cur.size ∧ cur'.toList = cur.toList.take o ++ vs ++ cur.toList.drop (o + vs.length)
  | [], o, w, cur, h, _ => ⟨cur, h, rfl, by simp⟩
  | v :: vs, o, w, cur, h, hl => by
    simp only [List.length_cons] at hl
    have h1 : (w.setCell ⟨b, o, none⟩ v).heap[b]? = some (.cells (cur.setIfInBounds o v) t (0, 0)) := Blk.set_ (w := w) h o v
    obtain ⟨cur', h2, h3, h4⟩ := setCells_at b t vs (o + 1) _ _ h1 (by simp; omega)
    refine ⟨cur', h2, by simpa using h3, ?_⟩
    rw [h4]
    have hlt : o < cur.toList.length := by simp; omega
    simp only [Array.toList_setIfInBounds, List.length_cons]
    rw [List.take_add_one, List.getElem?_set_self (by simpa using hlt), List.take_set_of_le (Nat.le_refl _), List.drop_set_of_lt (by omega), show o + 1 + vs.length = o + (vs.length + 1) by omega]
    simp
theorem touch_sets (b : Nat) : ∀ (vs : List Value) (o : Nat) {a w : World} {S : Nat → Prop}, Touch S a w → S b → Touch S a (w.setCells b o vs)
  | [], _, _, _, _, h, _ => h
  | v :: vs, o, _, _, _, h, hb => touch_sets b vs (o + 1) (h.setCell (.inl hb) v) hb
end Go.Proofs.Ytifbmapianddcaa
