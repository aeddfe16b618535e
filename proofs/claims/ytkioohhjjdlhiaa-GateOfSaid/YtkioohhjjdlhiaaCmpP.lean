/- Plain: cells row by row; lists put in order, each once. -/
import Derived.Test.YtkioohhjjdlhiaaPartB
import Derived.Shelf.SlSortCmp.Insertion
set_option linter.all false
set_option linter.unusedVariables false
set_option linter.unusedSimpArgs false
namespace Go.Proofs.Ytkioohhjjdlhiaa
open Go.RowKit

def ltC (p q : Cell) : Prop := p.2 < q.2 ∨ (p.2 = q.2 ∧ p.1 < q.1)
def leC (p q : Cell) : Prop := p.2 < q.2 ∨ (p.2 = q.2 ∧ p.1 ≤ q.1)
def cmpC (p q : Cell) : Int := if Go.Lib.compareInt p.2 q.2 = 0 then Go.Lib.compareInt p.1 q.1 else Go.Lib.compareInt p.2 q.2
theorem cmpI_lt (a b : Int) : Go.Lib.compareInt a b < 0 ↔ a < b := by unfold Go.Lib.compareInt; (repeat' split) <;> simp <;> omega
theorem cmpI_eq (a b : Int) : Go.Lib.compareInt a b = 0 ↔ a = b := by unfold Go.Lib.compareInt; (repeat' split) <;> simp <;> omega
theorem cmpC_lt (p q : Cell) : cmpC p q < 0 ↔ ltC p q := by
  unfold cmpC ltC
  by_cases h : Go.Lib.compareInt p.2 q.2 = 0
  · rw [if_pos h, cmpI_lt]; rw [cmpI_eq] at h; omega
  · rw [if_neg h, cmpI_lt]; rw [cmpI_eq] at h; omega
instance (p q : Cell) : Decidable (ltC p q) := by unfold ltC; infer_instance
theorem ltOf_cmpC (p q : Cell) : Go.Proofs.ltOf cmpC p q = decide (ltC p q) := by unfold Go.Proofs.ltOf; simp only [cmpC_lt]
theorem cmpC_swo : Go.Sort.SWO (Go.Proofs.ltOf cmpC) := by
  refine ⟨fun x => ?_, fun x y z => ?_, fun x y z => ?_⟩
  all_goals simp only [ltOf_cmpC, decide_eq_true_eq, decide_eq_false_iff_not]
  all_goals unfold ltC
  · omega
  · omega
  · omega
theorem cmpC_total (x y : Cell) (h1 : Go.Proofs.ltOf cmpC x y = false) (h2 : Go.Proofs.ltOf cmpC y x = false) : x = y := by
  simp only [ltOf_cmpC, decide_eq_false_iff_not] at h1 h2
  unfold ltC at h1 h2
  exact Prod.ext (by omega) (by omega)
/-- Put in order. -/
def sortL (l : List Cell) : List Cell := l.mergeSort fun x y => !(Go.Proofs.ltOf cmpC) y x
theorem sortL_perm (l : List Cell) : (sortL l).Perm l := List.mergeSort_perm l _
theorem sortL_sorted (l : List Cell) : (sortL l).Pairwise leC := by
  have h := List.pairwise_mergeSort (le := fun x y => !(Go.Proofs.ltOf cmpC) y x) (by
    intro a b c h1 h2
    simp only [ltOf_cmpC, Bool.not_eq_true', decide_eq_false_iff_not] at h1 h2 ⊢
    unfold ltC at h1 h2 ⊢
    omega) (by
    intro a b
    simp only [ltOf_cmpC, Bool.or_eq_true, Bool.not_eq_true', decide_eq_false_iff_not]
    unfold ltC
    omega) l
  refine List.Pairwise.imp (fun {a b} h => ?_) h
  simp only [ltOf_cmpC, Bool.not_eq_true', decide_eq_false_iff_not] at h
  unfold ltC at h
  unfold leC
  omega
theorem strict_unique : ∀ {l l' : List Cell}, l.Pairwise ltC → l'.Pairwise ltC → (∀ c, c ∈ l ↔ c ∈ l') → l = l'
  | [], [], _, _, _ => rfl
  | [], b :: r, _, _, h => by have := (h b).2 (by simp); simp at this
  | a :: r, [], _, _, h => by have := (h a).1 (by simp); simp at this
  | a :: r, b :: r', h1, h2, h => by
    have ha := List.pairwise_cons.1 h1
    have hb := List.pairwise_cons.1 h2
    have e : a = b := by
      rcases List.mem_cons.1 ((h a).1 (by simp)) with e | e
      · exact e
      · rcases List.mem_cons.1 ((h b).2 (by simp)) with e' | e'
        · exact e'.symm
        · have q1 := hb.1 a e
          have q2 := ha.1 b e'
          unfold ltC at q1 q2
          omega
    subst e
    congr 1
    refine strict_unique ha.2 hb.2 (fun c => ⟨fun hc => ?_, fun hc => ?_⟩)
    · rcases List.mem_cons.1 ((h c).1 (by simp [hc])) with e | e
      · subst e; have := ha.1 c hc; unfold ltC at this; omega
      · exact e
    · rcases List.mem_cons.1 ((h c).2 (by simp [hc])) with e | e
      · subst e; have := hb.1 c hc; unfold ltC at this; omega
      · exact e

/-- What stands in the row while m cells of the ordered list L are looked through: each once ahead, the rest as it was. -/
structure CompAt (L X : List Cell) (k m : Nat) : Prop where
  len : X.length = L.length
  lt : k < m
  strict : (X.take k).Pairwise ltC
  mem : ∀ c, c ∈ X.take k ↔ c ∈ L.take m
  back : ∀ j, m - 1 ≤ j → X[j]? = L[j]?
theorem CompAt.start {L : List Cell} {k : Nat} {q : Cell} (hs : (L.take k).Pairwise ltC) (h0 : 0 < k) (hq : L[k]? = some q) (hp : L[k - 1]? = some q) : CompAt L L k (k + 1) := by
  refine ⟨rfl, by omega, hs, fun c => ?_, fun _ _ => rfl⟩
  have e : L.take (k + 1) = L.take k ++ [q] := by rw [List.take_add_one, hq]; rfl
  rw [e, List.mem_append]
  constructor
  · exact .inl
  · rintro (h | h)
    · exact h
    · simp at h; subst h
      exact List.mem_of_getElem? (i := k - 1) (by rw [List.getElem?_take_of_lt (by omega)]; exact hp)
theorem CompAt.same {L X : List Cell} {k m : Nat} {q : Cell} (h : CompAt L X k m) (h0 : 0 < m) (hq : L[m]? = some q) (hp : L[m - 1]? = some q) : CompAt L X k (m + 1) := by
  refine ⟨h.len, by have := h.lt; omega, h.strict, fun c => ?_, fun j hj => h.back j (by omega)⟩
  have e : L.take (m + 1) = L.take m ++ [q] := by rw [List.take_add_one, hq]; rfl
  rw [e, List.mem_append, h.mem]
  constructor
  · exact .inl
  · rintro (h | h)
    · exact h
    · simp at h; subst h
      exact List.mem_of_getElem? (i := m - 1) (by rw [List.getElem?_take_of_lt (by omega)]; exact hp)
theorem CompAt.more {L X : List Cell} {k m : Nat} {p q : Cell} (hL : L.Pairwise leC) (h : CompAt L X k m) (h0 : 0 < m) (hq : L[m]? = some q) (hp : L[m - 1]? = some p) (hne : q ≠ p) : CompAt L (X.set k q) (k + 1) (m + 1) := by
  have hm := (List.getElem?_eq_some_iff.1 hq)
  have hm' := (List.getElem?_eq_some_iff.1 hp)
  have hlt := h.lt
  have hk : k < X.length := by rw [h.len]; have := hm.1; omega
  have e : L.take (m + 1) = L.take m ++ [q] := by rw [List.take_add_one, hq]; rfl
  have e2 : (X.set k q).take (k + 1) = X.take k ++ [q] := by
    rw [List.take_add_one, List.getElem?_set_self hk, List.take_set, List.set_eq_of_length_le (by rw [List.length_take]; omega)]
    rfl
  have hle : ∀ c ∈ L.take m, ltC c q := by
    intro c hc
    obtain ⟨i, hi, rfl⟩ := List.getElem_of_mem hc
    rw [List.length_take] at hi
    rw [List.getElem_take]
    have hpq : leC p q := by
      have := List.pairwise_iff_getElem.1 hL (m - 1) m hm'.1 hm.1 (by omega)
      rw [hm.2, hm'.2] at this
      exact this
    have hcp : L[i]'(by omega) = p ∨ leC (L[i]'(by omega)) p := by
      by_cases e : i = m - 1
      · subst e; exact .inl hm'.2
      · right
        have := List.pairwise_iff_getElem.1 hL i (m - 1) (by omega) hm'.1 (by omega)
        rw [hm'.2] at this
        exact this
    have hs : ltC p q := by
      have hn : ¬ (p.1 = q.1 ∧ p.2 = q.2) := fun h => hne (Prod.ext h.1.symm h.2.symm)
      unfold leC at hpq
      unfold ltC
      omega
    rcases hcp with e | hcp
    · rw [e]; exact hs
    · unfold leC at hcp
      unfold ltC at hs ⊢
      omega
  refine ⟨by rw [List.length_set]; exact h.len, by omega, ?_, fun c => ?_, fun j hj => ?_⟩
  · rw [e2, List.pairwise_append]
    refine ⟨h.strict, List.pairwise_singleton _ _, fun a ha b hb => ?_⟩
    simp at hb; subst hb
    exact hle a ((h.mem a).1 ha)
  · rw [e2, e, List.mem_append, List.mem_append, h.mem]
  · rw [List.getElem?_set_ne (by omega)]
    exact h.back j (by omega)
theorem strict_step {L : List Cell} {k : Nat} {p q : Cell} (hL : L.Pairwise leC) (hs : (L.take k).Pairwise ltC) (h0 : 0 < k) (hq : L[k]? = some q) (hp : L[k - 1]? = some p) (hne : q ≠ p) : (L.take (k + 1)).Pairwise ltC := by
  have hm := (List.getElem?_eq_some_iff.1 hq)
  have hm' := (List.getElem?_eq_some_iff.1 hp)
  have e : L.take (k + 1) = L.take k ++ [q] := by rw [List.take_add_one, hq]; rfl
  rw [e, List.pairwise_append]
  refine ⟨hs, List.pairwise_singleton _ _, fun a ha b hb => ?_⟩
  obtain rfl : q = b := (List.mem_singleton.1 hb).symm
  obtain ⟨i, hi, rfl⟩ := List.getElem_of_mem ha
  rw [List.length_take] at hi
  rw [List.getElem_take]
  have hpq : leC p q := by
    have := List.pairwise_iff_getElem.1 hL (k - 1) k hm'.1 hm.1 (by omega)
    rw [hm.2, hm'.2] at this
    exact this
  have hps : ltC p q := by
    have hn : ¬ (p.1 = q.1 ∧ p.2 = q.2) := fun h => hne (Prod.ext h.1.symm h.2.symm)
    unfold leC at hpq
    unfold ltC
    omega
  by_cases e : i = k - 1
  · subst e; rw [hm'.2]; exact hps
  · have := List.pairwise_iff_getElem.1 hL i (k - 1) (by omega) hm'.1 (by omega)
    rw [hm'.2] at this
    unfold leC at this
    unfold ltC at hps ⊢
    omega
end Go.Proofs.Ytkioohhjjdlhiaa
