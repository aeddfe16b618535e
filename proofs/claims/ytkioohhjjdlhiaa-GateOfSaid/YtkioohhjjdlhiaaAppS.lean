/- append of a whole row that is read, in a region that draws. -/
import Derived.Test.YtkioohhjjdlhiaaAppT
set_option linter.all false
set_option linter.unusedVariables false
set_option linter.unusedSimpArgs false
namespace Go.Proofs.Ytkioohhjjdlhiaa
open Go.RowKit

/-- .. as a step of a region that draws. -/
theorem step_app_rows {α : Type} (E : Enc α) {P : Program} {t e : TypeId} {z : Value} {bytes : Nat} (T : ElemT P t e z E.size bytes) {ops : Array Oper} {o : Oper} {a : Act} {K : Act → World → Prop} {Q : Exit → Act → World → Prop} {F : Prop} {w : World}
    (hgd : o.guard = none) (s x : Operand) (ho : o.op = .call { callee := .builtin .append, args := #[s, x], argTypes := #[t, t] })
    (base : Nat) (v : Value) (l1 l2 : List α) (hs : a.eval s = v) (hown : Own E w base e v l1) (u : Value) (hx : a.eval x = u) (hr : Reads E w u l2)
    (hlen : (l1.length + l2.length) * bytes ≤ 140737488355328) (hl : l1.length + l2.length ≤ 1000000000) (hbase : base ≤ w.heap.size)
    (h : ∀ v' w', Own E w' base e v' (l1 ++ l2) → Touch (fun k => v.ownBlock = some k) w w' → (∀ k, v'.ownBlock = some k → v.ownBlock = some k ∨ w.heap.size ≤ k) → K (a.put o.dst v') w') : if Region.wanted o (yielded ops a.tmps) = true then Oper.wp P o a w K Q else F := by
  have hw : Region.wanted o (yielded ops a.tmps) = true := by simp [Region.wanted, hgd]
  rw [if_pos hw]
  rcases hr with ⟨rfl, rfl⟩ | ⟨b, off, c, rfl, hb, hc⟩
  · obtain ⟨i0, hi, _, _, _⟩ := info_parts T.info
    have hr := run_append_owned_none (P := P) (w := w) base t o.type e i0 E.size T.under hi v l1.length (l1.flatMap E.cells) hown
    unfold Oper.wp execOp
    simp only [ho, resolve, invoke, builtin, Sem.run_bind, Sem.run_pure, Result.andThen_ok, List.map_toArray, List.map_cons, List.map_nil, hs, hx, hr]
    exact h v w (by rw [List.append_nil]; exact hown) (Touch.refl _ w) (fun k hk => .inl hk)
  · obtain ⟨i0, hi, hz0, hz1, hz2⟩ := info_parts T.info
    have hcells : ∀ (j : Nat) (u : Value), (l2.flatMap E.cells)[j]? = some u → w.cell? ((⟨b, off, none⟩ : Addr).add j) = some u := by
        intro j u hu
        have hadd : (⟨b, off, none⟩ : Addr).add j = ⟨b, off + j, none⟩ := by unfold Addr.add; split <;> simp_all
        rw [hadd]
        have hpos : 0 < E.size := T.pos
        have hjl : j < l2.length * E.size := by
          have := (List.getElem?_eq_some_iff.1 hu).1
          rw [E.flat_len] at this
          exact this
        have hk : j / E.size < l2.length := Nat.div_lt_of_lt_mul (by rw [Nat.mul_comm]; exact hjl)
        have hm : j % E.size < E.size := Nat.mod_lt _ hpos
        have hj : j / E.size * E.size + j % E.size = j := by rw [Nat.mul_comm]; exact Nat.div_add_mod j E.size
        have hy : l2[j / E.size]? = some l2[j / E.size] := List.getElem?_eq_getElem hk
        obtain ⟨u', hu'⟩ : ∃ u', (E.cells (l2[j / E.size]'hk))[j % E.size]? = some u' := ⟨_, List.getElem?_eq_getElem (Nat.lt_of_lt_of_eq hm (E.len _).symm)⟩
        have h2 := flat_at E l2 _ _ hy _ _ hu'
        rw [hj, hu] at h2
        injection h2 with h2
        have := hc _ _ hy _ _ hu'
        rw [hj] at this
        rw [h2]
        exact this
    obtain ⟨v', w', hr, hown', hg, _, hat⟩ := run_append_own_at (P := P) w base t o.type e i0 z E.size bytes T.under hi hz0 hz1 hz2 T.zs T.pos v l1.length (l1.flatMap E.cells) hown ⟨b, off, none⟩ l2.length c (l2.flatMap E.cells) (E.flat_len l2) hcells (E.flat_one l2) (by unfold maxLen; omega) hlen hbase
    unfold Oper.wp execOp
    simp only [ho, resolve, invoke, builtin, Sem.run_bind, Sem.run_pure, Result.andThen_ok, List.map_toArray, List.map_cons, List.map_nil, hs, hx, hr]
    have hown'' : Own E w' base e v' (l1 ++ l2) := by
      unfold Own
      rw [List.length_append, List.flatMap_append]
      exact hown'
    refine h v' w' hown'' ((Touch.refl _ w).grown hg (fun k hk => .inl hk)) (fun k hk => ?_)
    rcases hat with hat | hat
    · exact .inl (by rw [← hat]; exact hk)
    · rw [hat] at hk; injection hk with hk; exact .inr (by omega)
end Go.Proofs.Ytkioohhjjdlhiaa
