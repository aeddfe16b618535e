/- append of a whole row to a row of the call's own. -/
import Derived.Test.YtifbmapianddcaaBox
import Derived.OwnWalk
namespace Go.Proofs.Ytifbmapianddcaa
open Go.RowKit

theorem Own.lit1 {α : Type} (E : Enc α) (w : World) (base b : Nat) (e : TypeId) (y : α) (cs : Array Value) (hcs : cs = (E.cells y).toArray) (hb : b = w.heap.size) (hbase : base ≤ b) : Own E (w.alloc (.cells cs e)) base e (.slice (some ⟨b, 0, none⟩) 1 1) [y] := by
  subst hb
  subst hcs
  refine ⟨by simp [E.len], .inr ⟨w.heap.size, 1, (E.cells y).toArray, rfl, hbase, heap_alloc_new w _, Nat.le_refl _, ?_, ?_, ?_⟩⟩
  · unfold maxLen; omega
  · simp only [List.size_toArray, E.len, Nat.one_mul]
  · have := E.len y
    simp
    rw [List.take_of_length_le (by omega)]

theorem Reads.cells {α : Type} {E : Enc α} {w : World} {b off n c : Nat} {l : List α} (h : Reads E w (.slice (some ⟨b, off, none⟩) n c) l) : b < w.heap.size ∧ n = l.length ∧ ∀ (k : Nat) (y : α), l[k]? = some y → ∀ (j : Nat) (u : Value), (E.cells y)[j]? = some u → w.cell? ⟨b, off + (k * E.size + j), none⟩ = some u := by
  rcases h with ⟨h, _⟩ | ⟨b', off', cap', hv, hb, hc⟩
  · cases h
  · cases hv
    exact ⟨hb, rfl, hc⟩

theorem wpList_app_more {α : Type} (E : Enc α) {P : Program} {t e : TypeId} {z : Value} {bytes : Nat} (T : ElemT P t e z E.size bytes) {ops : Array Oper} {rest : List Oper} {o : Oper} {a : Act} {Q : Exit → Act → World → Prop} {w : World}
    (hgd : o.guard = none) (s x : Operand) (ho : o.op = .call { callee := .builtin .append, args := #[s, x], argTypes := #[t, t] })
    (base : Nat) (v : Value) (l1 l2 : List α) (hs : a.eval s = v) (hown : Own E w base e v l1)
    (b off c : Nat) (hx : a.eval x = .slice (some ⟨b, off, none⟩) l2.length c) (hc : ∀ (k : Nat) (y : α), l2[k]? = some y → ∀ (j : Nat) (u : Value), (E.cells y)[j]? = some u → w.cell? ⟨b, off + (k * E.size + j), none⟩ = some u)
    (hlen : (l1.length + l2.length) * bytes ≤ 140737488355328) (hl : l1.length + l2.length ≤ 1000000000) (hbase : base ≤ w.heap.size)
    (h : ∀ v' w', Own E w' base e v' (l1 ++ l2) → Below base w w' → wpList P ops Q rest (a.put o.dst v') w') : wpList P ops Q (o :: rest) a w := by
  obtain ⟨i0, hi, hz0, hz1, hz2⟩ := info_parts T.info
  have hcells : ∀ (j : Nat) (u : Value), (l2.flatMap E.cells)[j]? = some u → w.cell? ((⟨b, off, none⟩ : Addr).add j) = some u := by
    intro j u hu
    have hadd : (⟨b, off, none⟩ : Addr).add j = ⟨b, off + j, none⟩ := by unfold Addr.add; split <;> simp_all
    rw [hadd]
    have hpos : 0 < E.size := T.pos
    have hjl : j < l2.length * E.size := by
      have := (List.getElem?_eq_some_iff.1 hu).1
      rw [E.flat_len] at this
      exact this
    have hk : j / E.size < l2.length := Nat.div_lt_of_lt_mul (by rw [Nat.mul_comm]; exact hjl)
    have hm : j % E.size < E.size := Nat.mod_lt _ hpos
    have hj : j / E.size * E.size + j % E.size = j := by rw [Nat.mul_comm]; exact Nat.div_add_mod j E.size
    have hy : l2[j / E.size]? = some l2[j / E.size] := List.getElem?_eq_getElem hk
    obtain ⟨u', hu'⟩ : ∃ u', (E.cells (l2[j / E.size]'hk))[j % E.size]? = some u' := ⟨_, List.getElem?_eq_getElem (Nat.lt_of_lt_of_eq hm (E.len _).symm)⟩
    have h2 := flat_at E l2 _ _ hy _ _ hu'
    rw [hj, hu] at h2
    injection h2 with h2
    have := hc _ _ hy _ _ hu'
    rw [hj] at this
    rw [h2]
    exact this
  refine wpList_append_own _ hgd s x t ho base e i0 z E.size bytes T.under hi hz0 hz1 hz2 T.zs T.pos v l1.length (l1.flatMap E.cells) hs hown ⟨b, off, none⟩ l2.length c (l2.flatMap E.cells) hx (E.flat_len l2) hcells (E.flat_one l2) (by unfold maxLen; omega) hlen hbase ?_
  intro v' w' hown' hg _
  have hown'' : Own E w' base e v' (l1 ++ l2) := by
    unfold Own
    rw [List.length_append, List.flatMap_append]
    exact hown'
  refine h v' w' hown'' ?_
  refine (Below.refl base w).grown hg hbase ?_
  intro k hk
  exact (World.ownsRow.lt hown k hk).1
end Go.Proofs.Ytifbmapianddcaa
