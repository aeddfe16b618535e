/- What a search keeps. -/
import Derived.Test.YtifbmapianddcaaStarP
namespace Go.Proofs.Ytifbmapianddcaa

structure SInv (G : Net) (D : Nat → Int) (s : Nat) (A : AS) (pend : Nat → Nat → Prop) : Prop where
  two : ∀ v, A.st v ≤ 2
  op : ∀ v, A.st v ≠ 0 → G.op v = true
  s0 : A.st s ≠ 0
  sg : A.g s = 0
  sc : A.came s = -1
  opt : ∀ v, A.st v = 2 → A.g v = D v
  lo : ∀ v, A.st v ≠ 0 → D v ≤ A.g v
  bd : ∀ v, A.st v ≠ 0 → 0 ≤ A.g v ∧ A.g v ≤ 65535 * A.cnt
  bd2 : ∀ v, A.st v = 2 → A.g v + 65535 ≤ 65535 * A.cnt
  back : ∀ v, A.st v ≠ 0 → v ≠ s → ∃ u : Nat, A.came v = (u : Int) ∧ A.st u = 2 ∧ v ∈ G.adj u ∧ A.g v = A.g u + G.cost v
  reach : ∀ u v, A.st u = 2 → G.op v = true → v ∈ G.adj u → ¬ pend u v → A.st v ≠ 0 ∧ A.g v ≤ A.g u + G.cost v
  cnt : ((List.range G.n).countP (fun v => decide (A.st v = 2)) : Int) = A.cnt

section
variable {G : Net} {D : Nat → Int} {s : Nat} {A : AS} {pend pend' : Nat → Nat → Prop}

theorem SInv.weaken (I : SInv G D s A pend) (h : ∀ u v, A.st u = 2 → v ∈ G.adj u → pend u v → pend' u v) : SInv G D s A pend' :=
  { I with reach := fun u v hu ho ha hp => I.reach u v hu ho ha fun k => hp (h u v hu ha k) }
theorem SInv.few (I : SInv G D s A pend) : 0 ≤ A.cnt ∧ A.cnt ≤ G.n := by
  have h := List.countP_le_length (p := fun v => decide (A.st v = 2)) (l := List.range G.n)
  rw [List.length_range] at h
  have := I.cnt
  omega
theorem SInv.opens (I : SInv G D s A pend) {v : Nat} (hv : A.st v = 1) : A.cnt < G.n := by
  have hlt := G.lt v (I.op v (by omega))
  have hc := I.cnt
  have h1 : (List.range G.n).countP (fun v => decide (A.st v = 2)) < (List.range G.n).countP (fun _ => true) := by
    have hm : ∀ l : List Nat, v ∈ l → l.countP (fun v => decide (A.st v = 2)) < l.countP (fun _ => true) := by
      intro l
      induction l with
      | nil => intro h; cases h
      | cons a l ih =>
        intro h
        rw [List.countP_cons, List.countP_cons]
        have hle : l.countP (fun v => decide (A.st v = 2)) ≤ l.countP (fun _ => true) := List.countP_mono_left fun _ _ _ => rfl
        by_cases e : v = a
        · subst e; simp [hv]; simp at hle; omega
        · have := ih ((List.mem_cons.1 h).resolve_left e)
          split <;> simp at * <;> omega
    exact hm _ (List.mem_range.2 hlt)
  rw [List.countP_true, List.length_range] at h1
  omega

theorem sinv_start (hs : G.op s = true) (F : IsFar G s D) : SInv G D s (start0 s) (fun _ _ => False) where
  two v := by unfold start0 updN; simp only; split <;> omega
  op v hv := by
    unfold start0 updN at hv
    simp only at hv
    split at hv
    · next e => rw [e]; exact hs
    · exact absurd rfl hv
  s0 := by simp [start0, updN]
  sg := rfl
  sc := by simp [start0, updI]
  opt v hv := by
    unfold start0 updN at hv
    simp only at hv
    split at hv <;> omega
  lo v hv := by
    unfold start0 updN at hv
    simp only at hv
    split at hv
    · next e => rw [e, F.start hs]; exact Int.le_refl _
    · exact absurd rfl hv
  bd v _ := ⟨Int.le_refl _, Int.le_refl _⟩
  bd2 v hv := by
    unfold start0 updN at hv
    simp only at hv
    split at hv <;> omega
  back v hv hn := by
    unfold start0 updN at hv
    simp only at hv
    split at hv
    · next e => exact absurd e hn
    · exact absurd rfl hv
  reach u v hu := by
    unfold start0 updN at hu
    simp only at hu
    split at hu <;> omega
  cnt := by
    have : (List.range G.n).countP (fun v => decide ((start0 s).st v = 2)) = 0 := by
      rw [List.countP_eq_zero]
      intro v _
      unfold start0 updN
      simp only [decide_eq_true_eq]
      split <;> omega
    rw [this]; rfl

/-- How far a guess goes: it never falls by more than 1 from a cell to one beside it. -/
def Guess (G : Net) (h : Nat → Int) : Prop := ∀ u v, G.op u = true → G.op v = true → v ∈ G.adj u → h u ≤ h v + 1

/-- Of what is reached and not settled there is always a cell that is open at its least cost, and no worse. -/
theorem sinv_wit (I : SInv G D s A (fun _ _ => False)) (F : IsFar G s D) {h : Nat → Int} (hg : Guess G h) : ∀ (k : Nat) (y : Nat), D y = (k : Int) → D y < infI → A.st y ≠ 2 → ∃ x, A.st x = 1 ∧ A.g x = D x ∧ D x + h x ≤ D y + h y := by
  intro k
  induction k using Nat.strongRecOn with
  | _ k ih =>
    intro y hy hf h2
    have ho := F.open_ hf
    by_cases hs : y = s
    · subst hs
      have h1 := I.two y
      have h3 := I.s0
      exact ⟨y, by omega, by rw [I.sg, F.start ho], Int.le_refl _⟩
    · obtain ⟨u, hu, huo, he⟩ := F.from_ y ho hs hf
      have hc := G.pos y ho
      have hn := F.nn u
      have hgu := hg u y huo ho (G.sym u y huo ho hu)
      by_cases hu2 : A.st u = 2
      · obtain ⟨r1, r2⟩ := I.reach u y hu2 ho (G.sym u y huo ho hu) (fun x => x)
        have h1 := I.two y
        have h3 := I.lo y r1
        rw [I.opt u hu2] at r2
        exact ⟨y, by omega, by omega, Int.le_refl _⟩
      · obtain ⟨x, x1, x2, x3⟩ := ih (D u).toNat (by omega) u (by omega) (by omega) hu2
        exact ⟨x, x1, x2, by omega⟩
theorem best_le {W : Int} {h : Nat → Int} {v : Nat} (hb : IsBest W h A v) {u : Nat} (hu : A.st u = 1) : A.g v + h v ≤ A.g u + h u := by
  have := hb.2 u hu
  have hn : ¬ lessB (kOf W h A u) (kOf W h A v) = true := by rw [this]; simp
  rw [lessB_iff] at hn
  unfold kOf at hn
  simp only at hn
  omega
theorem sinv_best (I : SInv G D s A (fun _ _ => False)) (F : IsFar G s D) (hn : G.n ≤ 1000000) {h : Nat → Int} (hg : Guess G h) {W : Int} {v : Nat} (hb : IsBest W h A v) : A.g v = D v ∧ D v < infI := by
  have hv : A.st v ≠ 0 := by have := hb.1; omega
  have h1 := I.lo v hv
  have h2 := I.bd v hv
  have h3 := I.few
  have e : infI = 18446744073709551615 := rfl
  have hf : D v < infI := by omega
  have hnn := F.nn v
  obtain ⟨x, x1, x2, x3⟩ := sinv_wit I F hg (D v).toNat v (by omega) hf (by have := hb.1; omega)
  have := best_le hb x1
  exact ⟨by omega, hf⟩

theorem sinv_settle (I : SInv G D s A (fun _ _ => False)) {v : Nat} (h1 : A.st v = 1) (hg : A.g v = D v) : SInv G D s (A.settle v) (fun u m => u = v ∧ m ∈ G.adj v) := by
  have hst : ∀ u, (A.settle v).st u = if u = v then 2 else A.st u := fun u => rfl
  have hnz : ∀ u, (A.settle v).st u ≠ 0 → A.st u ≠ 0 := fun u hu => by
    rw [hst] at hu
    split at hu
    · next e => subst e; omega
    · exact hu
  have h2 : ∀ u, A.st u = 2 → (A.settle v).st u = 2 := fun u hu => by rw [hst]; split <;> omega
  refine ⟨fun u => ?_, fun u hu => I.op u (hnz u hu), ?_, I.sg, I.sc, fun u hu => ?_, fun u hu => I.lo u (hnz u hu), fun u hu => ?_, fun u hu => ?_, fun u hu hs => ?_, fun u m hu ho ha hp => ?_, ?_⟩
  · rw [hst]; have := I.two u; split <;> omega
  · rw [hst]; have := I.s0; split <;> omega
  · rw [hst] at hu
    split at hu
    · next e => subst e; exact hg
    · exact I.opt u hu
  · have := I.bd u (hnz u hu)
    show 0 ≤ A.g u ∧ A.g u ≤ 65535 * (A.cnt + 1)
    omega
  · show A.g u + 65535 ≤ 65535 * (A.cnt + 1)
    rw [hst] at hu
    split at hu
    · next e => subst e; have := I.bd u (by omega); omega
    · have := I.bd2 u hu; omega
  · obtain ⟨w, w1, w2, w3, w4⟩ := I.back u (hnz u hu) hs
    exact ⟨w, w1, h2 w w2, w3, w4⟩
  · rw [hst] at hu
    split at hu
    · next e => subst e; exact absurd ⟨rfl, ha⟩ hp
    · obtain ⟨r1, r2⟩ := I.reach u m hu ho ha (fun x => x)
      refine ⟨?_, r2⟩
      rw [hst]
      split <;> omega
  · have hlt := G.lt v (I.op v (by omega))
    have hc := I.cnt
    have hcount : ∀ l : List Nat, l.Nodup → l.countP (fun u => decide ((A.settle v).st u = 2)) = l.countP (fun u => decide (A.st u = 2)) + if v ∈ l then 1 else 0 := by
      intro l
      induction l with
      | nil => intro _; rfl
      | cons a l ih =>
        intro hnd
        obtain ⟨n1, n2⟩ := List.nodup_cons.1 hnd
        rw [List.countP_cons, List.countP_cons, ih n2, hst]
        by_cases e : a = v
        · subst e
          rw [if_pos rfl, if_neg n1, h1]
          simp
        · have e2 : ¬ v = a := fun h => e h.symm
          rw [if_neg e]
          by_cases hm : v ∈ l
          · rw [if_pos hm, if_pos (List.mem_cons_of_mem a hm)]; omega
          · have hm2 : ¬ v ∈ a :: l := fun h => (List.mem_cons.1 h).elim e2 hm
            rw [if_neg hm, if_neg hm2]; omega
    rw [hcount _ List.nodup_range, if_pos (List.mem_range.2 hlt)]
    show _ = A.cnt + 1
    push_cast
    omega

theorem sinv_rx (I : SInv G D s A pend) (F : IsFar G s D) (hn : G.n ≤ 1000000) {c m : Nat} (hc : A.st c = 2) (hm : G.op m = true) (ha : m ∈ G.adj c) : SInv G D s (rx G c A m) (fun u v => pend u v ∧ ¬ (u = c ∧ v = m)) := by
  have hco := I.op c (by omega)
  have hgc := I.opt c hc
  have hpm := G.pos m hm
  have htm := G.top m hm
  have hb2 := I.bd2 c hc
  have hbc := I.bd c (by omega)
  have hfew := I.few
  have e : infI = 18446744073709551615 := rfl
  have hms : m ≠ s → D m ≤ D c + G.cost m := fun hs => F.near m hm hs c (G.sym m c hm hco ha) hco (by omega)
  have hDm : D m ≤ A.g c + G.cost m := by
    by_cases hs : m = s
    · subst hs; rw [F.start hm]; omega
    · have := hms hs; omega
  unfold rx
  split
  · next ht =>
    have hnot2 : A.st m ≠ 2 := by rcases ht with h | h <;> omega
    have hnots : m ≠ s := fun hs => by
      subst hs
      have h0 := I.s0
      have h1 := I.sg
      rcases ht with h | h
      · exact h0 h
      · omega
    have hst : ∀ u, (A.put m (A.g c + G.cost m) c).st u = if u = m then 1 else A.st u := fun u => rfl
    have hg : ∀ u, (A.put m (A.g c + G.cost m) c).g u = if u = m then A.g c + G.cost m else A.g u := fun u => rfl
    have hcm : ∀ u, (A.put m (A.g c + G.cost m) c).came u = if u = m then (c : Int) else A.came u := fun u => rfl
    have hcne : c ≠ m := fun h => hnot2 (h ▸ hc)
    have h2 : ∀ u, (A.put m (A.g c + G.cost m) c).st u = 2 → A.st u = 2 ∧ u ≠ m := fun u hu => by
      rw [hst] at hu
      split at hu
      · omega
      · exact ⟨hu, by assumption⟩
    refine ⟨fun u => ?_, fun u hu => ?_, ?_, ?_, ?_, fun u hu => ?_, fun u hu => ?_, fun u hu => ?_, fun u hu => ?_, fun u hu hs => ?_, fun u v hu ho hav hp => ?_, ?_⟩
    · rw [hst]; have := I.two u; split <;> omega
    · rw [hst] at hu
      split at hu
      · next h => rw [h]; exact hm
      · exact I.op u hu
    · rw [hst, if_neg (fun h => hnots h.symm)]; exact I.s0
    · rw [hg, if_neg (fun h => hnots h.symm)]; exact I.sg
    · rw [hcm, if_neg (fun h => hnots h.symm)]; exact I.sc
    · obtain ⟨k1, k2⟩ := h2 u hu
      rw [hg, if_neg k2]; exact I.opt u k1
    · rw [hst] at hu
      rw [hg]
      split
      · next h => rw [h]; exact hDm
      · next h => rw [if_neg h] at hu; exact I.lo u hu
    · rw [hst] at hu
      rw [hg]
      show _ ∧ _ ≤ 65535 * A.cnt
      split
      · omega
      · next h => rw [if_neg h] at hu; exact I.bd u hu
    · obtain ⟨k1, k2⟩ := h2 u hu
      rw [hg, if_neg k2]; exact I.bd2 u k1
    · by_cases hum : u = m
      · subst hum
        refine ⟨c, by rw [hcm, if_pos rfl], by rw [hst, if_neg hcne]; exact hc, ha, ?_⟩
        rw [hg, if_pos rfl, hg, if_neg hcne]
      · rw [hst, if_neg hum] at hu
        obtain ⟨w, w1, w2, w3, w4⟩ := I.back u hu hs
        have hwm : w ≠ m := fun h => hnot2 (h ▸ w2)
        exact ⟨w, by rw [hcm, if_neg hum]; exact w1, by rw [hst, if_neg hwm]; exact w2, w3, by rw [hg, if_neg hum, hg, if_neg hwm]; exact w4⟩
    · obtain ⟨k1, k2⟩ := h2 u hu
      rw [hst, hg, hg, if_neg k2]
      by_cases hvm : v = m
      · subst hvm
        rw [if_pos rfl, if_pos rfl]
        refine ⟨by omega, ?_⟩
        by_cases huc : u = c
        · subst huc; exact Int.le_refl _
        · obtain ⟨r1, r2⟩ := I.reach u v k1 ho hav (fun h => hp ⟨h, fun h' => huc h'.1⟩)
          rcases ht with h | h
          · exact absurd h r1
          · omega
      · rw [if_neg hvm, if_neg hvm]
        exact I.reach u v k1 ho hav (fun h => hp ⟨h, fun h' => hvm h'.2⟩)
    · have := I.cnt
      show _ = A.cnt
      rw [← this]
      congr 1
      refine List.countP_congr fun u _ => ?_
      rw [hst]
      simp only [decide_eq_true_eq]
      split
      · next h => subst h; omega
      · exact Iff.rfl
  · next ht =>
    refine { I with reach := fun u v hu ho hav hp => ?_ }
    by_cases hh : u = c ∧ v = m
    · obtain ⟨rfl, rfl⟩ := hh
      have h2 := I.two v
      have h0 : A.st v ≠ 0 := fun h => ht (.inl h)
      refine ⟨h0, ?_⟩
      by_cases h1 : A.st v = 1
      · have : ¬ (A.g u + G.cost v < A.g v) := fun h => ht (.inr ⟨h1, h⟩)
        omega
      · rw [I.opt v (by omega)]; exact hDm
    · exact I.reach u v hu ho hav (fun h => hp ⟨h, hh⟩)

theorem sinv_end (I : SInv G D s A (fun _ _ => False)) (F : IsFar G s D) (hno : ∀ v, A.st v ≠ 1) {y : Nat} (hy : D y < infI) : A.st y = 2 := by
  by_cases h : A.st y = 2
  · exact h
  · obtain ⟨x, x1, _⟩ := sinv_wit I F (h := fun _ => 0) (fun _ _ _ _ _ => (by decide : (0 : Int) ≤ 0 + 1)) (D y).toNat y (by have := F.nn y; omega) hy h
    exact absurd x1 (hno x)
end
end Go.Proofs.Ytifbmapianddcaa
