/- A search's open cells as things of a heap. -/
import Derived.Test.YtifbmapianddcaaStarI
namespace Go.Proofs.Ytifbmapianddcaa

/-- The things are the open cells, each by its key. -/
structure HQ (K : Nat → HKey) (A : AS) (ts : List Thing) : Prop where
  nodup : (ids ts).Nodup
  thing : ∀ t, t ∈ ts → ∃ v : Nat, t = ((v : Int), K v) ∧ A.st v = 1
  fin : ∀ v, A.st v = 1 → (v : Int) ∈ ids ts

variable {K K' : Nat → HKey} {A : AS} {ts ts' : List Thing}

theorem HQ.perm (Q : HQ K A ts) (h : ts'.Perm ts) : HQ K A ts' :=
  ⟨(ids_perm h).nodup_iff.2 Q.nodup, fun t ht => Q.thing t (h.mem_iff.1 ht), fun v hv => (ids_perm h).mem_iff.2 (Q.fin v hv)⟩
theorem HQ.ids_st (Q : HQ K A ts) {v : Nat} (h : (v : Int) ∈ ids ts) : A.st v = 1 := by
  obtain ⟨t, ht, he⟩ := List.mem_map.1 h
  obtain ⟨v', e, h1⟩ := Q.thing t ht
  rw [e] at he
  have : v' = v := by simp only at he; omega
  rw [← this]; exact h1
theorem HQ.few (Q : HQ K A ts) {n : Nat} (hn : ∀ v, A.st v ≠ 0 → v < n) : ts.length ≤ n := by
  have h : (ids ts).length ≤ ((List.range n).map fun v : Nat => (v : Int)).length := by
    refine nodup_sub Q.nodup fun t ht => ?_
    obtain ⟨x, hx, he⟩ := List.mem_map.1 ht
    obtain ⟨v, e, h1⟩ := Q.thing x hx
    exact List.mem_map.2 ⟨v, List.mem_range.2 (hn v (by omega)), by rw [← he, e]⟩
  rw [ids_len] at h
  simpa using h

theorem HQ.push (Q : HQ K A ts) {m : Nat} {x c : Int} (h0 : A.st m = 0) (hK : ∀ v, v ≠ m → K' v = K v) (hp : ts'.Perm (((m : Int), K' m) :: ts)) : HQ K' (A.put m x c) ts' := by
  have hnm : (m : Int) ∉ ids ts := fun h => by have := Q.ids_st h; omega
  have hst : ∀ u, (A.put m x c).st u = if u = m then 1 else A.st u := fun u => rfl
  refine HQ.perm (ts := ((m : Int), K' m) :: ts) ⟨?_, fun t ht => ?_, fun v hv => ?_⟩ hp
  · show ((m : Int) :: ids ts).Nodup
    exact List.nodup_cons.2 ⟨hnm, Q.nodup⟩
  · rcases List.mem_cons.1 ht with rfl | ht
    · exact ⟨m, rfl, by rw [hst, if_pos rfl]⟩
    · obtain ⟨v, e, h1⟩ := Q.thing t ht
      have hvm : v ≠ m := fun h => by subst h; omega
      exact ⟨v, by rw [hK v hvm]; exact e, by rw [hst, if_neg hvm]; exact h1⟩
  · rw [hst] at hv
    show (v : Int) ∈ (m : Int) :: ids ts
    by_cases e : v = m
    · rw [e]; exact List.mem_cons_self
    · rw [if_neg e] at hv
      exact List.mem_cons_of_mem _ (Q.fin v hv)

theorem HQ.waits (Q : HQ K A ts) {m : Nat} (h1 : A.st m = 1) : ∃ k, k < ts.length ∧ tat ts k = ((m : Int), K m) := by
  obtain ⟨t, ht, he⟩ := List.mem_map.1 (Q.fin m h1)
  obtain ⟨v', e, _⟩ := Q.thing t ht
  rw [e] at he
  have : v' = m := by simp only at he; omega
  subst this
  obtain ⟨k, hk, hkt⟩ := List.mem_iff_getElem.1 ht
  exact ⟨k, hk, by rw [tat_lt hk, hkt, e]⟩

theorem HQ.lower (Q : HQ K A ts) {m k : Nat} {x c : Int} (h1 : A.st m = 1) (hk : k < ts.length) (hat : tat ts k = ((m : Int), K m)) (hK : ∀ v, v ≠ m → K' v = K v) (hp : ts'.Perm (ts.set k ((m : Int), K' m))) : HQ K' (A.put m x c) ts' := by
  have hst : ∀ u, (A.put m x c).st u = if u = m then 1 else A.st u := fun u => rfl
  have hids : ids (ts.set k ((m : Int), K' m)) = ids ts := by
    unfold ids
    apply List.ext_getElem?
    intro j
    rw [List.getElem?_map, List.getElem?_map, List.getElem?_set]
    by_cases e : k = j
    · subst e
      have : ts[k] = ((m : Int), K m) := by rw [← tat_lt hk]; exact hat
      simp [hk, this]
    · simp [e]
  refine HQ.perm (ts := ts.set k ((m : Int), K' m)) ⟨by rw [hids]; exact Q.nodup, fun t ht => ?_, fun v hv => ?_⟩ hp
  · obtain ⟨j, hj, he⟩ := List.mem_iff_getElem.1 ht
    have hj2 : j < ts.length := by rw [List.length_set] at hj; exact hj
    rw [List.getElem_set] at he
    split at he
    · exact ⟨m, he.symm, by rw [hst, if_pos rfl]⟩
    · next hkj =>
      obtain ⟨v, e, h2⟩ := Q.thing t (he ▸ List.getElem_mem hj2)
      have hvm : v ≠ m := fun h => hkj (by
        subst h
        have a1 : (ids ts)[k]'(by rw [ids_len]; exact hk) = (v : Int) := by
          have := ids_get hk
          rw [hat] at this
          exact (List.getElem?_eq_some_iff.1 this).2
        have a2 : (ids ts)[j]'(by rw [ids_len]; exact hj2) = (v : Int) := by
          have := ids_get hj2
          rw [tat_lt hj2, he, e] at this
          exact (List.getElem?_eq_some_iff.1 this).2
        exact (List.getElem_inj (h₀ := by rw [ids_len]; exact hk) (h₁ := by rw [ids_len]; exact hj2) Q.nodup).1 (a1.trans a2.symm))
      exact ⟨v, by rw [hK v hvm]; exact e, by rw [hst, if_neg hvm]; exact h2⟩
  · rw [hids]
    rw [hst] at hv
    by_cases e : v = m
    · rw [e]; exact Q.fin m h1
    · rw [if_neg e] at hv
      exact Q.fin v hv

theorem HQ.pop (Q : HQ K A ts) (ho : HeapOk ts) (hp : (tat ts 0 :: ts').Perm ts) : ∃ v : Nat, tat ts 0 = ((v : Int), K v) ∧ A.st v = 1 ∧ (∀ u, A.st u = 1 → lessB (K u) (K v) = false) ∧ HQ K (A.settle v) ts' := by
  have Q2 := Q.perm hp
  obtain ⟨v, e, h1⟩ := Q2.thing _ List.mem_cons_self
  have hnd : (ids (tat ts 0 :: ts')).Nodup := Q2.nodup
  have hnd2 : ((v : Int) :: ids ts').Nodup := by
    have : ids (tat ts 0 :: ts') = (v : Int) :: ids ts' := by rw [e]; rfl
    rw [← this]; exact hnd
  obtain ⟨hnv, hnd3⟩ := List.nodup_cons.1 hnd2
  have hst : ∀ u, (A.settle v).st u = if u = v then 2 else A.st u := fun u => rfl
  refine ⟨v, e, h1, fun u hu => ?_, hnd3, fun t ht => ?_, fun u hu => ?_⟩
  · obtain ⟨k, hk, hat⟩ := Q.waits hu
    have hle := heap_min ho k hk
    rw [hat, e] at hle
    have := le_iff.1 hle
    cases hl : lessB (K u) (K v)
    · rfl
    · rw [lessB_iff] at hl
      exfalso
      apply this
      simp only
      omega
  · obtain ⟨u, e2, h2⟩ := Q2.thing t (List.mem_cons_of_mem _ ht)
    have huv : u ≠ v := fun h => hnv (by subst h; exact List.mem_map.2 ⟨t, ht, by rw [e2]⟩)
    exact ⟨u, e2, by rw [hst, if_neg huv]; exact h2⟩
  · rw [hst] at hu
    by_cases h : u = v
    · rw [if_pos h] at hu; omega
    · rw [if_neg h] at hu
      have h3 := Q2.fin u hu
      have : ids (tat ts 0 :: ts') = (v : Int) :: ids ts' := by rw [e]; rfl
      rw [this] at h3
      exact (List.mem_cons.1 h3).resolve_left (fun h4 => h (by omega))
end Go.Proofs.Ytifbmapianddcaa
