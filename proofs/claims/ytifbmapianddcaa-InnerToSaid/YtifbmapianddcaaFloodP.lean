/- The plain invariant of the flood: settled places, waiting ones, and how far all are. -/
import Derived.Test.YtifbmapianddcaaFarP
import Derived.Test.YtifbmapianddcaaHeapP
namespace Go.Proofs.Ytifbmapianddcaa

def updF (f : Nat → Int) (j : Nat) (x : Int) (v : Nat) : Int := if v = j then x else f v
theorem updF_same (f : Nat → Int) (j : Nat) (x : Int) : updF f j x j = x := if_pos rfl
theorem updF_ne (f : Nat → Int) {j v : Nat} (x : Int) (h : v ≠ j) : updF f j x v = f v := if_neg h

structure Dij (G : Net) (K : Nat → Int × Int) (s : Nat) (far : Nat → Int) (ts : List Thing) (S : List Nat) (pend : Nat → Nat → Prop) : Prop where
  nn : ∀ v, 0 ≤ far v
  le : ∀ v, far v ≤ infI
  shut : ∀ v, G.op v = false → far v = infI
  start : far s = 0
  nodupS : S.Nodup
  inS : ∀ v, v ∈ S → far v < infI
  nodupT : (ids ts).Nodup
  thing : ∀ t, t ∈ ts → ∃ v : Nat, t = ((v : Int), ((far v, 0), K v)) ∧ v ∉ S ∧ far v < infI
  fin : ∀ v, far v < infI → v ∈ S ∨ (v : Int) ∈ ids ts
  ord : ∀ u v, u ∈ S → v ∉ S → far u ≤ far v
  relax : ∀ u v, u ∈ S → G.op v = true → u ∈ G.adj v → ¬ pend u v → far v ≤ far u + G.cost v
  from_ : ∀ v, G.op v = true → v ≠ s → far v < infI → ∃ u, u ∈ S ∧ u ∈ G.adj v ∧ far u + G.cost v = far v
  low : ∀ v, far v < infI → far v ≤ 65535 * (S.length : Int)

variable {G : Net} {K : Nat → Int × Int} {s : Nat} {far : Nat → Int} {ts ts' : List Thing} {S : List Nat} {pend pend' : Nat → Nat → Prop}

theorem Dij.open_ (D : Dij G K s far ts S pend) {v : Nat} (h : far v < infI) : G.op v = true := by
  cases ho : G.op v
  · rw [D.shut v ho] at h; omega
  · rfl

theorem Dij.perm (D : Dij G K s far ts S pend) (h : ts'.Perm ts) : Dij G K s far ts' S pend :=
  { D with
    nodupT := (ids_perm h).nodup_iff.2 D.nodupT
    thing := fun t ht => D.thing t (h.mem_iff.1 ht)
    fin := fun v hv => (D.fin v hv).imp id fun k => (ids_perm h).mem_iff.2 k }

theorem Dij.weaken (D : Dij G K s far ts S pend) (h : ∀ u v, u ∈ S → G.op v = true → u ∈ G.adj v → pend u v → pend' u v) : Dij G K s far ts S pend' :=
  { D with relax := fun u v hu hv ha hp => D.relax u v hu hv ha fun k => hp (h u v hu hv ha k) }

theorem dij_start (hs : G.op s = true) : Dij G K s (updF (fun _ => infI) s 0) [((s : Int), ((0, 0), K s))] [] (fun _ _ => False) where
  nn v := by unfold updF; split <;> simp [infI]
  le v := by unfold updF; split <;> simp [infI]
  shut v hv := by
    unfold updF
    split
    · next e => subst e; rw [hs] at hv; cases hv
    · rfl
  start := updF_same _ _ _
  nodupS := List.nodup_nil
  inS v hv := by cases hv
  nodupT := by simp [ids]
  thing t ht := by
    simp only [List.mem_singleton] at ht
    subst ht
    exact ⟨s, by rw [updF_same], by simp, by rw [updF_same]; decide⟩
  fin v hv := by
    right
    unfold updF at hv
    split at hv
    · next e => subst e; simp [ids]
    · exact absurd hv (Int.lt_irrefl _)
  ord u v hu := by cases hu
  relax u v hu := by cases hu
  from_ v _ hv hf := by rw [updF_ne _ _ hv] at hf; exact absurd hf (Int.lt_irrefl _)
  low v hv := by
    unfold updF at hv ⊢
    split at hv
    · next e => rw [if_pos e]; simp
    · exact absurd hv (Int.lt_irrefl _)

/-- The first of a heap is taken. -/
theorem dij_pop (D : Dij G K s far ts S (fun _ _ => False)) (hok : HeapOk ts) (hp : (tat ts 0 :: ts').Perm ts) :
    ∃ i : Nat, tat ts 0 = ((i : Int), ((far i, 0), K i)) ∧ i ∉ S ∧ far i < infI ∧ (∀ u, u ∈ i :: S → far u ≤ far i) ∧ far i + 65535 ≤ 65535 * ((i :: S).length : Int) ∧ Dij G K s far ts' (i :: S) (fun u v => u = i ∧ v ∈ G.adj i) := by
  have hmem : tat ts 0 ∈ ts := hp.mem_iff.1 List.mem_cons_self
  obtain ⟨i, hi, hiS, hif⟩ := D.thing _ hmem
  have D' := D.perm hp
  have hnd := D'.nodupT
  rw [show ids (tat ts 0 :: ts') = (tat ts 0).1 :: ids ts' from rfl, List.nodup_cons, hi] at hnd
  have hmin : ∀ v, v ∉ S → far i ≤ far v := fun v hv => by
    by_cases hf : far v < infI
    · rcases D.fin v hf with h | h
      · exact absurd h hv
      · obtain ⟨t, ht, hte⟩ := List.mem_map.1 h
        obtain ⟨v', e, _, _⟩ := D.thing t ht
        obtain ⟨k, hk, hkt⟩ := List.mem_iff_getElem.1 ht
        have hl := heap_min hok k hk
        rw [tat_lt hk, hkt, hi, le_iff, e] at hl
        rw [e] at hte
        have : v' = v := by simp only at hte; omega
        subst this
        simp only at hl
        omega
    · omega
  have hiop := D.open_ hif
  have hlow := D.low i hif
  refine ⟨i, hi, hiS, hif, fun u hu => ?_, by simp only [List.length_cons]; push_cast; omega, ?_⟩
  · rcases List.mem_cons.1 hu with rfl | hu
    · exact Int.le_refl _
    · exact D.ord u i hu hiS
  · exact {
      nn := D.nn, le := D.le, shut := D.shut, start := D.start
      nodupS := List.nodup_cons.2 ⟨hiS, D.nodupS⟩
      inS := fun v hv => by
        rcases List.mem_cons.1 hv with rfl | hv
        · exact hif
        · exact D.inS v hv
      nodupT := hnd.2
      thing := fun t ht => by
        obtain ⟨v, e, h1, h2⟩ := D'.thing t (List.mem_cons_of_mem _ ht)
        refine ⟨v, e, fun hm => ?_, h2⟩
        rcases List.mem_cons.1 hm with rfl | hm
        · exact hnd.1 (List.mem_map.2 ⟨t, ht, by rw [e]⟩)
        · exact h1 hm
      fin := fun v hv => by
        rcases D'.fin v hv with h | h
        · exact .inl (List.mem_cons_of_mem _ h)
        · rw [show ids (tat ts 0 :: ts') = (tat ts 0).1 :: ids ts' from rfl, hi] at h
          rcases List.mem_cons.1 h with h | h
          · have : v = i := by simp only at h; omega
            subst this
            exact .inl List.mem_cons_self
          · exact .inr h
      ord := fun u v hu hv => by
        have hv' : v ∉ S := fun h => hv (List.mem_cons_of_mem _ h)
        rcases List.mem_cons.1 hu with rfl | hu
        · exact hmin v hv'
        · exact D.ord u v hu hv'
      relax := fun u v hu hv ha hp => by
        rcases List.mem_cons.1 hu with rfl | hu
        · exact absurd ⟨rfl, G.sym _ _ hiop hv ha⟩ hp
        · exact D.relax u v hu hv ha (fun x => x)
      from_ := fun v h1 h2 h3 => by
        obtain ⟨u, h4, h5⟩ := D.from_ v h1 h2 h3
        exact ⟨u, List.mem_cons_of_mem _ h4, h5⟩
      low := fun v hv => by
        have := D.low v hv
        simp only [List.length_cons]
        push_cast
        omega }

/-- What a turn of one place's distance does. -/
theorem dij_turn {i j : Nat} {x : Int} (D : Dij G K s far ts S pend) (hi : i ∈ S) (htop : ∀ u, u ∈ S → far u ≤ far i) (hlow : far i + 65535 ≤ 65535 * (S.length : Int)) (hs : S.length ≤ 1000000)
    (hj : G.op j = true) (ha : i ∈ G.adj j) (hx : x = far i + G.cost j) (hlt : x < far j)
    (hnd : (ids ts').Nodup) (hth : ∀ t, t ∈ ts' → t = ((j : Int), ((x, 0), K j)) ∨ t ∈ ts ∧ t.1 ≠ (j : Int)) (hid : ∀ v : Int, v = j ∨ v ∈ ids ts → v ∈ ids ts') :
    j ∉ S ∧ x < infI ∧ Dij G K s (updF far j x) ts' S (fun u v => pend u v ∧ ¬ (u = i ∧ v = j)) := by
  have hp := G.pos j hj
  have ht := G.top j hj
  have hn := D.nn i
  have hjS : j ∉ S := fun h => by have := htop j h; omega
  have hxi : x < infI := by have := D.le j; omega
  have hjs : j ≠ s := fun e => by subst e; have := D.start; omega
  have hne : ∀ u, u ∈ S → u ≠ j := fun u hu e => hjS (e ▸ hu)
  refine ⟨hjS, hxi, ?_⟩
  exact {
    nn := fun v => by unfold updF; split; · omega
                      · exact D.nn v
    le := fun v => by unfold updF; split; · omega
                      · exact D.le v
    shut := fun v hv => by
      rw [updF_ne _ _ (fun e => by subst e; rw [hj] at hv; cases hv)]
      exact D.shut v hv
    start := by rw [updF_ne _ _ (fun e => hjs e.symm)]; exact D.start
    nodupS := D.nodupS
    inS := fun v hv => by rw [updF_ne _ _ (hne v hv)]; exact D.inS v hv
    nodupT := hnd
    thing := fun t h => by
      rcases hth t h with rfl | ⟨h1, h2⟩
      · exact ⟨j, by rw [updF_same], hjS, by rw [updF_same]; exact hxi⟩
      · obtain ⟨v, e, h3, h4⟩ := D.thing t h1
        have : v ≠ j := fun h => h2 (by rw [e, h])
        exact ⟨v, by rw [updF_ne _ _ this]; exact e, h3, by rw [updF_ne _ _ this]; exact h4⟩
    fin := fun v hv => by
      by_cases e : v = j
      · exact .inr (hid _ (.inl (by rw [e])))
      · rw [updF_ne _ _ e] at hv
        exact (D.fin v hv).imp id fun k => hid _ (.inr k)
    ord := fun u v hu hv => by
      rw [updF_ne _ _ (hne u hu)]
      by_cases e : v = j
      · subst e; rw [updF_same]; have := htop u hu; omega
      · rw [updF_ne _ _ e]; exact D.ord u v hu hv
    relax := fun u v hu hv hb hq => by
      rw [updF_ne _ _ (hne u hu)]
      by_cases e : v = j
      · subst e
        rw [updF_same]
        by_cases eu : u = i
        · subst eu; omega
        · have := D.relax u v hu hv hb fun h => hq ⟨h, fun k => eu k.1⟩
          omega
      · rw [updF_ne _ _ e]
        exact D.relax u v hu hv hb fun h => hq ⟨h, fun k => e k.2⟩
    from_ := fun v h1 h2 h3 => by
      by_cases e : v = j
      · subst e
        exact ⟨i, hi, ha, by rw [updF_ne _ _ (hne i hi), updF_same, hx]⟩
      · rw [updF_ne _ _ e] at h3 ⊢
        obtain ⟨u, h4, h5, h6⟩ := D.from_ v h1 h2 h3
        exact ⟨u, h4, h5, by rw [updF_ne _ _ (hne u h4)]; exact h6⟩
    low := fun v hv => by
      by_cases e : v = j
      · subst e; rw [updF_same]; omega
      · rw [updF_ne _ _ e] at hv ⊢; exact D.low v hv }

theorem Dij.ids_fin (D : Dij G K s far ts S pend) {v : Nat} (h : (v : Int) ∈ ids ts) : v ∉ S ∧ far v < infI := by
  obtain ⟨t, ht, he⟩ := List.mem_map.1 h
  obtain ⟨v', e, h1, h2⟩ := D.thing t ht
  rw [e] at he
  have : v' = v := by simp only at he; omega
  subst this
  exact ⟨h1, h2⟩

theorem dij_push {i j : Nat} {x : Int} (D : Dij G K s far ts S pend) (hi : i ∈ S) (htop : ∀ u, u ∈ S → far u ≤ far i) (hlow : far i + 65535 ≤ 65535 * (S.length : Int)) (hs : S.length ≤ 1000000)
    (hj : G.op j = true) (ha : i ∈ G.adj j) (hx : x = far i + G.cost j) (hinf : far j = infI) (hp : ts'.Perm (ts ++ [((j : Int), ((x, 0), K j))])) :
    Dij G K s (updF far j x) ts' S (fun u v => pend u v ∧ ¬ (u = i ∧ v = j)) := by
  have ht := G.top j hj
  have hj' : (j : Int) ∉ ids ts := fun h => by have := (D.ids_fin h).2; omega
  refine (dij_turn (ts' := ts ++ [((j : Int), ((x, 0), K j))]) D hi htop hlow hs hj ha hx (by have : infI = 18446744073709551615 := rfl; omega) ?_ ?_ ?_).2.2.perm hp
  · rw [show ids (ts ++ [((j : Int), ((x, 0), K j))]) = ids ts ++ [(j : Int)] by simp [ids]]
    refine List.nodup_append.2 ⟨D.nodupT, by simp, fun a h1 b h2 => ?_⟩
    simp only [List.mem_singleton] at h2
    subst h2
    exact fun e => hj' (e ▸ h1)
  · intro t h
    rcases List.mem_append.1 h with h | h
    · exact .inr ⟨h, fun e => hj' (e ▸ List.mem_map.2 ⟨t, h, rfl⟩)⟩
    · exact .inl (by simpa using h)
  · intro v h
    rw [show ids (ts ++ [((j : Int), ((x, 0), K j))]) = ids ts ++ [(j : Int)] by simp [ids]]
    rcases h with rfl | h
    · simp
    · exact List.mem_append.2 (.inl h)

/-- A place that waits has its thing in the heap. -/
theorem dij_waits {i j : Nat} {x : Int} (D : Dij G K s far ts S pend) (htop : ∀ u, u ∈ S → far u ≤ far i) (hj : G.op j = true) (hx : x = far i + G.cost j) (hinf : far j < infI) (hlt : x < far j) :
    ∃ k, k < ts.length ∧ tat ts k = ((j : Int), ((far j, 0), K j)) := by
  have hp := G.pos j hj
  rcases D.fin j hinf with h | h
  · have := htop j h; omega
  · obtain ⟨t, ht, he⟩ := List.mem_map.1 h
    obtain ⟨v', e, h1, h2⟩ := D.thing t ht
    rw [e] at he
    have : v' = j := by simp only at he; omega
    subst this
    obtain ⟨k, hk, hkt⟩ := List.mem_iff_getElem.1 ht
    exact ⟨k, hk, by rw [tat_lt hk, hkt, e]⟩

theorem dij_lower {i j k : Nat} {x : Int} (D : Dij G K s far ts S pend) (hi : i ∈ S) (htop : ∀ u, u ∈ S → far u ≤ far i) (hlow : far i + 65535 ≤ 65535 * (S.length : Int)) (hs : S.length ≤ 1000000)
    (hj : G.op j = true) (ha : i ∈ G.adj j) (hx : x = far i + G.cost j) (hlt : x < far j) (hk : k < ts.length) (hat : tat ts k = ((j : Int), ((far j, 0), K j))) (hp : ts'.Perm (ts.set k ((j : Int), ((x, 0), K j)))) :
    Dij G K s (updF far j x) ts' S (fun u v => pend u v ∧ ¬ (u = i ∧ v = j)) := by
  have hids : ids (ts.set k ((j : Int), ((x, 0), K j))) = ids ts := by
    unfold ids
    apply List.ext_getElem?
    intro m
    rw [List.getElem?_map, List.getElem?_map, List.getElem?_set]
    by_cases e : k = m
    · subst e
      have : ts[k] = ((j : Int), ((far j, 0), K j)) := by rw [← tat_lt hk]; exact hat
      simp [hk, this]
    · simp [e]
  refine (dij_turn (ts' := ts.set k ((j : Int), ((x, 0), K j))) D hi htop hlow hs hj ha hx hlt (by rw [hids]; exact D.nodupT) ?_ ?_).2.2.perm hp
  · intro t h
    obtain ⟨m, hm, he⟩ := List.mem_iff_getElem.1 h
    rw [List.length_set] at hm
    rw [List.getElem_set] at he
    split at he
    · exact .inl he.symm
    · next hkm =>
      refine .inr ⟨he ▸ List.getElem_mem hm, fun e => hkm ?_⟩
      have hnd := D.nodupT
      have a1 : (ids ts)[k]'(by rw [ids_len]; exact hk) = (j : Int) := by
        have := ids_get hk
        rw [hat] at this
        exact (List.getElem?_eq_some_iff.1 this).2
      have a2 : (ids ts)[m]'(by rw [ids_len]; exact hm) = (j : Int) := by
        have := ids_get hm
        rw [tat_lt hm, he, e] at this
        exact (List.getElem?_eq_some_iff.1 this).2
      exact (List.getElem_inj (h₀ := by rw [ids_len]; exact hk) (h₁ := by rw [ids_len]; exact hm) hnd).1 (a1.trans a2.symm)
  · intro v h
    rw [hids]
    rcases h with rfl | h
    · have := ids_get hk
      rw [hat] at this
      exact List.mem_of_getElem? this
    · exact h

theorem dij_skip {i j : Nat} (D : Dij G K s far ts S pend) (h : far j ≤ far i + G.cost j) : Dij G K s far ts S (fun u v => pend u v ∧ ¬ (u = i ∧ v = j)) :=
  { D with
    relax := fun u v hu hv ha hp => by
      by_cases e : u = i ∧ v = j
      · obtain ⟨rfl, rfl⟩ := e; exact h
      · exact D.relax u v hu hv ha fun k => hp ⟨k, e⟩ }

theorem nodup_sub {α : Type} [DecidableEq α] : ∀ {l m : List α}, l.Nodup → (∀ v, v ∈ l → v ∈ m) → l.length ≤ m.length
  | [], _, _, _ => Nat.zero_le _
  | a :: l, m, h, hb => by
    rw [List.nodup_cons] at h
    have hm := hb a List.mem_cons_self
    have := nodup_sub (l := l) (m := m.erase a) h.2 fun v hv => (List.mem_erase_of_ne (fun e : v = a => h.1 (by rw [← e]; exact hv))).2 (hb v (List.mem_cons_of_mem _ hv))
    rw [List.length_erase_of_mem hm] at this
    have : 0 < m.length := List.length_pos_of_mem hm
    simp only [List.length_cons]
    omega
theorem nodup_le {l : List Nat} {n : Nat} (h : l.Nodup) (hb : ∀ v, v ∈ l → v < n) : l.length ≤ n := by
  have := nodup_sub h (m := List.range n) fun v hv => List.mem_range.2 (hb v hv)
  simpa using this

theorem Dij.few (D : Dij G K s far ts S pend) : S.length ≤ G.n := nodup_le D.nodupS fun v hv => G.lt v (D.open_ (D.inS v hv))

theorem Dij.waits (D : Dij G K s far ts S pend) : ts.length ≤ G.n := by
  have := nodup_sub D.nodupT (m := (List.range G.n).map (fun v : Nat => (v : Int))) fun t ht => by
    obtain ⟨x, hx, he⟩ := List.mem_map.1 ht
    obtain ⟨v, e, _, h2⟩ := D.thing x hx
    exact List.mem_map.2 ⟨v, List.mem_range.2 (G.lt v (D.open_ h2)), by rw [← he, e]⟩
  rw [ids_len] at this
  simpa using this

theorem dij_end (D : Dij G K s far [] S (fun _ _ => False)) : IsFar G s far ∧ FarLow G far := by
  have hS : ∀ v, far v < infI → v ∈ S := fun v hv => (D.fin v hv).resolve_right (by simp [ids])
  refine ⟨⟨fun _ => D.start, D.shut, D.nn, D.le, fun v ho _ u hu huo hf => ?_, fun v ho hs hf => ?_⟩, fun v hv => ?_⟩
  · exact D.relax u v (hS u (by have := G.pos v ho; omega)) ho hu (fun x => x)
  · obtain ⟨u, h1, h2, h3⟩ := D.from_ v ho hs hf
    exact ⟨u, h2, D.open_ (D.inS u h1), h3⟩
  · have := D.low v hv
    have := D.few
    omega
end Go.Proofs.Ytifbmapianddcaa
