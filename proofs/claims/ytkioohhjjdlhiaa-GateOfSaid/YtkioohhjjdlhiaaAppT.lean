/- append of a whole row that is read, be it nothing: where the new row lies, and what was written. -/
import Derived.Test.YtkioohhjjdlhiaaLib
import Derived.Laws.AppendOwnNone
set_option linter.all false
set_option linter.unusedVariables false
set_option linter.unusedSimpArgs false
namespace Go.Proofs.Ytkioohhjjdlhiaa
open Go.RowKit

theorem own_ne_ownG {α β : Type} {E : Enc α} {E' : Enc β} {w : World} {base base' : Nat} {e e' : TypeId} {v v' : Value} {l : List α} {l' : List β} (h : Own E w base e v l) (h' : Own E' w base' e' v' l') (hne : e ≠ e') {k : Nat} (hk : v.ownBlock = some k) : v'.ownBlock ≠ some k := by
  rcases h.2 with ⟨rfl, _⟩ | ⟨g, cap, cur, rfl, _, hg, _⟩
  · simp [Value.ownBlock] at hk
  · rcases h'.2 with ⟨rfl, _⟩ | ⟨g', cap', cur', rfl, _, hg', _⟩
    · simp [Value.ownBlock]
    · intro he
      have e1 : g = k := by simpa [Value.ownBlock] using hk
      have e2 : g' = k := by simpa [Value.ownBlock] using he
      subst e1 e2
      rw [hg] at hg'
      injection hg' with hg'
      injection hg' with _ h2 _
      exact hne h2

theorem wpList_app_rows {α : Type} (E : Enc α) {P : Program} {t e : TypeId} {z : Value} {bytes : Nat} (T : ElemT P t e z E.size bytes) {ops : Array Oper} {rest : List Oper} {o : Oper} {a : Act} {Q : Exit → Act → World → Prop} {w : World}
    (hgd : o.guard = none) (s x : Operand) (ho : o.op = .call { callee := .builtin .append, args := #[s, x], argTypes := #[t, t] })
    (base : Nat) (v : Value) (l1 l2 : List α) (hs : a.eval s = v) (hown : Own E w base e v l1) (u : Value) (hx : a.eval x = u) (hr : Reads E w u l2)
    (hlen : (l1.length + l2.length) * bytes ≤ 140737488355328) (hl : l1.length + l2.length ≤ 1000000000) (hbase : base ≤ w.heap.size)
    (h : ∀ v' w', Own E w' base e v' (l1 ++ l2) → Touch (fun k => v.ownBlock = some k) w w' → (∀ k, v'.ownBlock = some k → v.ownBlock = some k ∨ w.heap.size ≤ k) → wpList P ops Q rest (a.put o.dst v') w') : wpList P ops Q (o :: rest) a w := by
  rcases hr with ⟨rfl, rfl⟩ | ⟨b, off, c, rfl, hb, hc⟩
  · obtain ⟨i0, hi, _, _, _⟩ := info_parts T.info
    refine wpList_append_own_none hgd s x t ho base e i0 E.size T.under hi v l1.length (l1.flatMap E.cells) hs hown hx ?_
    exact h v w (by rw [List.append_nil]; exact hown) (Touch.refl _ w) (fun k hk => .inl hk)
  · obtain ⟨i0, hi, hz0, hz1, hz2⟩ := info_parts T.info
    have hcells : ∀ (j : Nat) (u : Value), (l2.flatMap E.cells)[j]? = some u → w.cell? ((⟨b, off, none⟩ : Addr).add j) = some u := by
        intro j u hu
        have hadd : (⟨b, off, none⟩ : Addr).add j = ⟨b, off + j, none⟩ := by unfold Addr.add; split <;> simp_all
        rw [hadd]
        have hpos : 0 < E.size := T.pos
        have hjl : j < l2.length * E.size := by
          have := (List.getElem?_eq_some_iff.1 hu).1
          rw [E.flat_len] at this
          exact this
        have hk : j / E.size < l2.length := Nat.div_lt_of_lt_mul (by rw [Nat.mul_comm]; exact hjl)
        have hm : j % E.size < E.size := Nat.mod_lt _ hpos
        have hj : j / E.size * E.size + j % E.size = j := by rw [Nat.mul_comm]; exact Nat.div_add_mod j E.size
        have hy : l2[j / E.size]? = some l2[j / E.size] := List.getElem?_eq_getElem hk
        obtain ⟨u', hu'⟩ : ∃ u', (E.cells (l2[j / E.size]'hk))[j % E.size]? = some u' := ⟨_, List.getElem?_eq_getElem (Nat.lt_of_lt_of_eq hm (E.len _).symm)⟩
        have h2 := flat_at E l2 _ _ hy _ _ hu'
        rw [hj, hu] at h2
        injection h2 with h2
        have := hc _ _ hy _ _ hu'
        rw [hj] at this
        rw [h2]
        exact this
    refine wpList_append_own_at _ hgd s x t ho base e i0 z E.size bytes T.under hi hz0 hz1 hz2 T.zs T.pos v l1.length (l1.flatMap E.cells) hs hown ⟨b, off, none⟩ l2.length c (l2.flatMap E.cells) hx (E.flat_len l2) hcells (E.flat_one l2) (by unfold maxLen; omega) hlen hbase ?_
    intro v' w' hown' hg _ hat
    have hown'' : Own E w' base e v' (l1 ++ l2) := by
      unfold Own
      rw [List.length_append, List.flatMap_append]
      exact hown'
    refine h v' w' hown'' ((Touch.refl _ w).grown hg (fun k hk => .inl hk)) (fun k hk => ?_)
    rcases hat with hat | hat
    · exact .inl (by rw [← hat]; exact hk)
    · rw [hat] at hk; injection hk with hk; exact .inr (by omega)
end Go.Proofs.Ytkioohhjjdlhiaa
