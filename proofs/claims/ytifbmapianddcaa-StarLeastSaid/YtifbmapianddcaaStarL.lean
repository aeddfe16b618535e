/- The search of layer 10 in plain words: the best by looking through, a run that is reckoned, what a budget does, how a run ends, and that its path is a way. -/
import Derived.Test.YtifbmapianddcaaStarP
set_option linter.all false
set_option linter.unusedVariables false
set_option linter.unusedSimpArgs false
namespace Go.Proofs.Ytifbmapianddcaa

theorem lessB_irr (a : HKey) : lessB a a = false := by
  cases h : lessB a a
  · rfl
  · rw [lessB_iff] at h; omega
theorem lessB_asym {a b : HKey} (h : lessB a b = true) : lessB b a = false := by
  cases k : lessB b a
  · rfl
  · rw [lessB_iff] at h k; omega
theorem lessB_via {a b c : HKey} (h : lessB a b = true) (k : lessB c b = false) : lessB c a = false := by
  cases l : lessB c a
  · rfl
  · have : lessB c b = true := by rw [lessB_iff] at h l ⊢; omega
    rw [this] at k; cases k

/-- The first of the open cells below a number. -/
def bestN (W : Int) (h : Nat → Int) (A : AS) : Nat → Option Nat
  | 0 => none
  | i + 1 => match bestN W h A i with
    | none => if A.st i = 1 then some i else none
    | some j => if A.st i = 1 ∧ lessB (kOf W h A i) (kOf W h A j) = true then some i else some j
theorem bestN_none {W : Int} {h : Nat → Int} {A : AS} : ∀ {n : Nat}, bestN W h A n = none → ∀ v, v < n → A.st v ≠ 1
  | 0, _ => fun v hv => absurd hv (Nat.not_lt_zero v)
  | i + 1, hb => fun v hv => by
    unfold bestN at hb
    cases hj : bestN W h A i
    · rw [hj] at hb
      simp only at hb
      split at hb
      · cases hb
      · next h1 =>
        by_cases e : v = i
        · rw [e]; exact h1
        · exact bestN_none hj v (by omega)
    · rw [hj] at hb
      simp only at hb
      split at hb <;> cases hb
theorem bestN_some {W : Int} {h : Nat → Int} {A : AS} : ∀ {n j : Nat}, bestN W h A n = some j → j < n ∧ A.st j = 1 ∧ ∀ v, v < n → A.st v = 1 → lessB (kOf W h A v) (kOf W h A j) = false
  | 0, _, hb => by cases hb
  | i + 1, j, hb => by
    unfold bestN at hb
    cases hj : bestN W h A i
    · rw [hj] at hb
      simp only at hb
      have hno := bestN_none hj
      split at hb
      · next h1 =>
        cases hb
        refine ⟨by omega, h1, fun v hv hv1 => ?_⟩
        by_cases e : v = i
        · rw [e]; exact lessB_irr _
        · exact absurd hv1 (hno v (by omega))
      · cases hb
    · rename_i m
      rw [hj] at hb
      simp only at hb
      obtain ⟨m1, m2, m3⟩ := bestN_some hj
      split at hb
      · next h1 =>
        cases hb
        refine ⟨by omega, h1.1, fun v hv hv1 => ?_⟩
        by_cases e : v = i
        · rw [e]; exact lessB_irr _
        · exact lessB_via h1.2 (m3 v (by omega) hv1)
      · next h1 =>
        cases hb
        refine ⟨by omega, m2, fun v hv hv1 => ?_⟩
        by_cases e : v = i
        · rw [e] at hv1 ⊢
          cases k : lessB (kOf W h A i) (kOf W h A j)
          · rfl
          · exact absurd ⟨hv1, k⟩ h1
        · exact m3 v (by omega) hv1
theorem bestN_best {G : Net} {W : Int} {h : Nat → Int} {A : AS} {v : Nat} (hb : bestN W h A G.n = some v) (hlt : ∀ u, A.st u = 1 → u < G.n) : IsBest W h A v :=
  ⟨(bestN_some hb).2.1, fun u hu => (bestN_some hb).2.2 u (hlt u hu) hu⟩

def chainF (came : Nat → Int) : Nat → Nat → Option (List Nat)
  | 0, _ => none
  | k + 1, v => if came v < 0 then some [v] else (chainF came k (came v).toNat).map (v :: ·)
theorem chainF_ok {came : Nat → Int} : ∀ {k v : Nat} {l : List Nat}, chainF came k v = some l → Chain came v l
  | 0, _, _, h => by cases h
  | k + 1, v, l, h => by
    unfold chainF at h
    split at h
    · next h0 => cases h; exact .stop h0
    · next h0 =>
      cases hc : chainF came k (came v).toNat
      · rw [hc] at h; cases h
      · rw [hc] at h
        cases h
        exact .go (by omega) (chainF_ok hc)

def runF (G : Net) (W : Int) (h : Nat → Int) (t : Nat) (b : Int) : Nat → AS → Option (List Nat × Int × Int × Int)
  | 0, _ => none
  | k + 1, A => match bestN W h A G.n with
    | none => some ([], 0, A.cnt, 22)
    | some v => if A.cnt = b then some ([], 0, A.cnt, 23) else if v = t then (chainF A.came (G.n + 1) t).map (fun l => (l.reverse, A.g t, A.cnt + 1, 0)) else runF G W h t b k (stepA G A v)

theorem rx_st (G : Net) (c : Nat) (A : AS) (m u : Nat) : (rx G c A m).st u = A.st u ∨ (u = m ∧ (rx G c A m).st u = 1 ∧ A.st u ≠ 2) := by
  unfold rx
  split
  · next h =>
    by_cases e : u = m
    · subst e; right; exact ⟨rfl, updN_same _ _ _, by rcases h with h | h <;> omega⟩
    · left; exact updN_ne _ _ e
  · left; rfl
theorem rx_c (G : Net) (c : Nat) (A : AS) (m : Nat) : (rx G c A m).cnt = A.cnt := by
  unfold rx; split <;> rfl
theorem rx_g2 (G : Net) (c : Nat) (A : AS) (m u : Nat) (h : A.st u = 2) : (rx G c A m).st u = 2 ∧ (rx G c A m).g u = A.g u ∧ (rx G c A m).came u = A.came u := by
  unfold rx
  split
  · next k =>
    have hne : u ≠ m := fun e => by subst e; rcases k with k | k <;> omega
    exact ⟨(updN_ne _ _ hne).trans h, updI_ne _ _ hne, updI_ne _ _ hne⟩
  · exact ⟨h, rfl, rfl⟩
theorem rxs_st (G : Net) (c : Nat) : ∀ (l : List Nat) (A : AS) (u : Nat), (rxs G c A l).st u = A.st u ∨ (u ∈ l ∧ (rxs G c A l).st u = 1 ∧ A.st u ≠ 2)
  | [], _, _ => .inl rfl
  | m :: l, A, u => by
    show (rxs G c (rx G c A m) l).st u = _ ∨ _ ∧ (rxs G c (rx G c A m) l).st u = 1 ∧ _
    rcases rxs_st G c l (rx G c A m) u with h | ⟨h1, h2, h3⟩
    · rcases rx_st G c A m u with k | ⟨k1, k2, k3⟩
      · exact .inl (h.trans k)
      · exact .inr ⟨k1 ▸ List.mem_cons_self, h.trans k2, k3⟩
    · refine .inr ⟨List.mem_cons_of_mem _ h1, h2, fun e => ?_⟩
      exact h3 (rx_g2 G c A m u e).1
theorem rxs_c (G : Net) (c : Nat) : ∀ (l : List Nat) (A : AS), (rxs G c A l).cnt = A.cnt
  | [], _ => rfl
  | m :: l, A => (rxs_c G c l (rx G c A m)).trans (rx_c G c A m)
theorem stepA_st (G : Net) (A : AS) (v u : Nat) : (u = v ∧ A.st v ≠ 2 → (stepA G A v).st u = 2) ∧ ((stepA G A v).st u = 2 → u = v ∨ A.st u = 2) ∧ ((stepA G A v).st u = 1 → A.st u = 1 ∨ u ∈ G.adj v) := by
  have hst : ∀ x, (A.settle v).st x = if x = v then 2 else A.st x := fun x => rfl
  have h := rxs_st G v (G.adj v) (A.settle v) u
  rw [hst] at h
  refine ⟨fun e => ?_, fun e => ?_, fun e => ?_⟩
  · rcases h with h | h
    · exact h.trans (if_pos e.1)
    · rw [if_pos e.1] at h; exact absurd rfl h.2.2
  · rcases h with h | h
    · by_cases k : u = v
      · exact .inl k
      · rw [if_neg k] at h; exact .inr (h.symm.trans e)
    · have := h.2.1
      have : (stepA G A v).st u = 1 := this
      omega
  · rcases h with h | h
    · by_cases k : u = v
      · rw [if_pos k] at h; have : (stepA G A v).st u = 2 := h; omega
      · rw [if_neg k] at h; exact .inl (h.symm.trans e)
    · exact .inr h.1
theorem stepA_c (G : Net) (A : AS) (v : Nat) : (stepA G A v).cnt = A.cnt + 1 := rxs_c G v _ _

theorem runF_ok {G : Net} {W : Int} {h : Nat → Int} {t : Nat} {b : Int} (hadj : ∀ v m, m ∈ G.adj v → m < G.n) : ∀ {k : Nat} {A : AS} {p : List Nat} {c n e : Int}, (∀ u, A.st u = 1 → u < G.n) → runF G W h t b k A = some (p, c, n, e) → ARun G W h t b A p c n e
  | 0, _, _, _, _, _, _, hr => by cases hr
  | k + 1, A, p, c, n, e, hlt, hr => by
    unfold runF at hr
    cases hb : bestN W h A G.n
    · rw [hb] at hr
      cases hr
      exact .none fun v hv => bestN_none hb v (hlt v hv) hv
    · rename_i v
      rw [hb] at hr
      simp only at hr
      have hB := bestN_best (G := G) hb hlt
      split at hr
      · next h1 => cases hr; exact .full v hB.1 h1
      · next h1 =>
        split at hr
        · next h2 =>
          subst h2
          cases hc : chainF A.came (G.n + 1) v
          · rw [hc] at hr; cases hr
          · rw [hc] at hr
            cases hr
            exact .found hB h1 (chainF_ok hc)
        · next h2 =>
          refine .next hB h1 h2 (runF_ok hadj (fun u hu => ?_) hr)
          rcases (stepA_st G A v u).2.2 hu with k | k
          · exact hlt u k
          · exact hadj v u k

section
variable {G : Net} {D : Nat → Int} {s : Nat} {A : AS} {pend : Nat → Nat → Prop}

theorem sinv_rxs (F : IsFar G s D) (hn : G.n ≤ 1000000) {c : Nat} : ∀ (l : List Nat) {A : AS} {pend : Nat → Nat → Prop}, SInv G D s A pend → A.st c = 2 → (∀ m, m ∈ l → G.op m = true ∧ m ∈ G.adj c) → SInv G D s (rxs G c A l) (fun u v => pend u v ∧ ¬ (u = c ∧ v ∈ l))
  | [], A, pend, I, _, _ => I.weaken fun _ _ _ _ h => ⟨h, fun k => by cases k.2⟩
  | m :: l, A, pend, I, hc, hl => by
    have hm := hl m List.mem_cons_self
    have I2 := sinv_rx I F hn hc hm.1 hm.2
    refine (sinv_rxs F hn l I2 (rx_g2 G c A m c hc).1 (fun x hx => hl x (List.mem_cons_of_mem _ hx))).weaken fun u v _ _ h => ⟨h.1.1, fun k => ?_⟩
    rcases List.mem_cons.1 k.2 with e | e
    · exact h.1.2 ⟨k.1, e⟩
    · exact h.2 ⟨k.1, e⟩
theorem sinv_step (I : SInv G D s A (fun _ _ => False)) (F : IsFar G s D) (hn : G.n ≤ 1000000) {h : Nat → Int} (hg : Guess G h) (hadj : ∀ v m, m ∈ G.adj v → G.op m = true) {W : Int} {v : Nat} (hb : IsBest W h A v) : SInv G D s (stepA G A v) (fun _ _ => False) := by
  have I1 := sinv_settle I hb.1 (sinv_best I F hn hg hb).1
  have h2 : (A.settle v).st v = 2 := updN_same _ _ _
  exact (sinv_rxs F hn (G.adj v) I1 h2 (fun m hm => ⟨hadj v m hm, hm⟩)).weaken fun u x _ _ k => k.2 k.1

/-- A chain is a way, and so in each net that has its cells as they are. -/
theorem chain_way (I : SInv G D s A pend) {K : Net} {v : Nat} {l : List Nat} (hc : Chain A.came v l) : A.st v ≠ 0 → (∀ u, u ∈ l → K.op u = true ∧ K.cost u = G.cost u) → (∀ u x, u ∈ l → x ∈ l → x ∈ G.adj u → x ∈ K.adj u) → Way K s v (A.g v) := by
  induction hc with
  | stop h0 =>
    rename_i v
    intro hv h1 _
    by_cases e : v = s
    · subst e
      rw [I.sg]
      exact .start (h1 v List.mem_cons_self).1
    · obtain ⟨u, hu, _⟩ := I.back v hv e
      omega
  | go h0 hcc ih =>
    rename_i v u l
    intro hv h1 h2
    by_cases e : v = s
    · subst e
      have := I.sc
      omega
    · obtain ⟨u', hu, k1, k2, k3⟩ := I.back v hv e
      have : u' = u := by omega
      subst this
      have hmu : u' ∈ l := by cases hcc <;> exact List.mem_cons_self
      have hw := ih (by omega) (fun x hx => h1 x (List.mem_cons_of_mem _ hx)) (fun x y hx hy => h2 x y (List.mem_cons_of_mem _ hx) (List.mem_cons_of_mem _ hy))
      have ha := h2 u' v (List.mem_cons_of_mem _ hmu) List.mem_cons_self k2
      have ho := h1 v List.mem_cons_self
      have hou := h1 u' (List.mem_cons_of_mem _ hmu)
      refine (Way.step hw (K.sym v u' ho.1 hou.1 ha) ho.1).cast ?_
      rw [ho.2]; exact k3.symm
end

theorem run_cnt {G : Net} {W : Int} {h : Nat → Int} {t : Nat} {b : Int} {A : AS} {p : List Nat} {c k e : Int} (r : ARun G W h t b A p c k e) : A.cnt ≤ k := by
  induction r with
  | none _ => exact Int.le_refl _
  | full _ _ _ => exact Int.le_refl _
  | found _ _ _ => omega
  | next _ _ _ _ ih => rw [stepA_c] at ih; omega

/-- What a smaller budget does. -/
theorem run_budget {G : Net} {W : Int} {h : Nat → Int} {t : Nat} {m : Int} {A : AS} {p : List Nat} {c k e : Int} (r : ARun G W h t m A p c k e) (he : e ≠ 23) {b : Int} (hb : A.cnt ≤ b) : (b < k → ARun G W h t b A [] 0 b 23) ∧ (k ≤ b → ARun G W h t b A p c k e) := by
  induction r with
  | none h0 => exact ⟨fun hk => by omega, fun _ => .none h0⟩
  | full _ _ _ => exact absurd rfl he
  | found hB hn hc =>
    rename_i A l
    by_cases e1 : A.cnt = b
    · exact ⟨fun _ => by rw [← e1]; exact .full t hB.1 rfl, fun hk => by omega⟩
    · exact ⟨fun hk => by omega, fun _ => .found hB e1 hc⟩
  | next hB hn hv r ih =>
    rename_i A v p c k e
    have hk := run_cnt r
    rw [stepA_c] at hk
    by_cases e1 : A.cnt = b
    · exact ⟨fun _ => by rw [← e1]; exact .full v hB.1 rfl, fun hk2 => by omega⟩
    · have := ih he (by rw [stepA_c]; omega)
      exact ⟨fun h1 => .next hB e1 hv (this.1 h1), fun h1 => .next hB e1 hv (this.2 h1)⟩

/-- How a run ends. -/
structure Found (G : Net) (D : Nat → Int) (s t : Nat) (p : List Nat) (c : Int) : Prop where
  cost : c = D t
  fin : D t < infI
  way : ∀ K : Net, (∀ u, u ∈ p → K.op u = true ∧ K.cost u = G.cost u) → (∀ u x, u ∈ p → x ∈ p → x ∈ G.adj u → x ∈ K.adj u) → Way K s t c

theorem run_end {G : Net} {W : Int} {h : Nat → Int} {t s : Nat} {b : Int} {A : AS} {D : Nat → Int} {p : List Nat} {c k e : Int} (r : ARun G W h t b A p c k e) (I : SInv G D s A (fun _ _ => False)) (F : IsFar G s D) (hn : G.n ≤ 1000000) (hg : Guess G h) (hadj : ∀ v m, m ∈ G.adj v → G.op m = true) (ht : A.st t ≠ 2) : k ≤ G.n ∧ ((e = 0 ∧ Found G D s t p c) ∨ (e = 22 ∧ D t = infI ∧ p = [] ∧ c = 0) ∨ (e = 23 ∧ p = [] ∧ c = 0 ∧ k = b ∧ b < G.n)) := by
  induction r with
  | none h0 =>
    have hf := I.few
    refine ⟨hf.2, .inr (.inl ⟨rfl, ?_, rfl, rfl⟩)⟩
    by_cases hD : D t < infI
    · exact absurd (sinv_end I F h0 hD) ht
    · have := F.le t; omega
  | full v hv hc =>
    have := I.opens hv
    exact ⟨by omega, .inr (.inr ⟨rfl, rfl, rfl, hc, by omega⟩)⟩
  | found hB hb hc =>
    rename_i A l
    have h1 := sinv_best I F hn hg hB
    have h2 := I.opens hB.1
    refine ⟨by omega, .inl ⟨rfl, h1.1, by omega, fun K k1 k2 => ?_⟩⟩
    exact chain_way I hc (by have := hB.1; omega) (fun u hu => k1 u (List.mem_reverse.2 hu)) (fun u x hu hx => k2 u x (List.mem_reverse.2 hu) (List.mem_reverse.2 hx))
  | next hB hb hv r ih =>
    rename_i A v p c k e
    refine ih (sinv_step I F hn hg hadj hB) fun h2 => ?_
    rcases (stepA_st G A v t).2.1 h2 with k | k
    · exact hv k.symm
    · exact ht k
end Go.Proofs.Ytifbmapianddcaa
