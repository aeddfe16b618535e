/- The law StarSettles, as it is said. -/
import Derived.Test.YtifbmapianddcaaStarI
import Derived.Test.YtifbmapianddcaaStarK
import Derived.Test.YtifbmapianddcaaFloodE
import Derived.Test.YtifbmapianddcaaStarJ
import Derived.Test.YtifbmapianddcaaRefA
import Derived.ProofKit
import Derived.OpenShut
import Derived.ShutString
import Derived.ChangeOld
import Derived.Test.YtifbmapianddcaaField
import Derived.Deep.Slices
set_option linter.all false
set_option linter.unusedVariables false
set_option linter.unusedSimpArgs false
/- The search of layer 10 in plain words: the best by looking through, a run that is reckoned, what a budget does, how a run ends, and that its path is a way. -/
namespace Go.Proofs.Ytifbmapianddcaa

theorem lessB_irr (a : HKey) : lessB a a = false := by
  cases h : lessB a a
  · rfl
  · rw [lessB_iff] at h; omega
theorem lessB_asym {a b : HKey} (h : lessB a b = true) : lessB b a = false := by
  cases k : lessB b a
  · rfl
  · rw [lessB_iff] at h k; omega
theorem lessB_via {a b c : HKey} (h : lessB a b = true) (k : lessB c b = false) : lessB c a = false := by
  cases l : lessB c a
  · rfl
  · have : lessB c b = true := by rw [lessB_iff] at h l ⊢; omega
    rw [this] at k; cases k

/-- The first of the open cells below a number. -/
def bestN (W : Int) (h : Nat → Int) (A : AS) : Nat → Option Nat
  | 0 => none
  | i + 1 => match bestN W h A i with
    | none => if A.st i = 1 then some i else none
    | some j => if A.st i = 1 ∧ lessB (kOf W h A i) (kOf W h A j) = true then some i else some j
theorem bestN_none {W : Int} {h : Nat → Int} {A : AS} : ∀ {n : Nat}, bestN W h A n = none → ∀ v, v < n → A.st v ≠ 1
  | 0, _ => fun v hv => absurd hv (Nat.not_lt_zero v)
  | i + 1, hb => fun v hv => by
    unfold bestN at hb
    cases hj : bestN W h A i
    · rw [hj] at hb
      simp only at hb
      split at hb
      · cases hb
      · next h1 =>
        by_cases e : v = i
        · rw [e]; exact h1
        · exact bestN_none hj v (by omega)
    · rw [hj] at hb
      simp only at hb
      split at hb <;> cases hb
theorem bestN_some {W : Int} {h : Nat → Int} {A : AS} : ∀ {n j : Nat}, bestN W h A n = some j → j < n ∧ A.st j = 1 ∧ ∀ v, v < n → A.st v = 1 → lessB (kOf W h A v) (kOf W h A j) = false
  | 0, _, hb => by cases hb
  | i + 1, j, hb => by
    unfold bestN at hb
    cases hj : bestN W h A i
    · rw [hj] at hb
      simp only at hb
      have hno := bestN_none hj
      split at hb
      · next h1 =>
        cases hb
        refine ⟨by omega, h1, fun v hv hv1 => ?_⟩
        by_cases e : v = i
        · rw [e]; exact lessB_irr _
        · exact absurd hv1 (hno v (by omega))
      · cases hb
    · rename_i m
      rw [hj] at hb
      simp only at hb
      obtain ⟨m1, m2, m3⟩ := bestN_some hj
      split at hb
      · next h1 =>
        cases hb
        refine ⟨by omega, h1.1, fun v hv hv1 => ?_⟩
        by_cases e : v = i
        · rw [e]; exact lessB_irr _
        · exact lessB_via h1.2 (m3 v (by omega) hv1)
      · next h1 =>
        cases hb
        refine ⟨by omega, m2, fun v hv hv1 => ?_⟩
        by_cases e : v = i
        · rw [e] at hv1 ⊢
          cases k : lessB (kOf W h A i) (kOf W h A j)
          · rfl
          · exact absurd ⟨hv1, k⟩ h1
        · exact m3 v (by omega) hv1
theorem bestN_best {G : Net} {W : Int} {h : Nat → Int} {A : AS} {v : Nat} (hb : bestN W h A G.n = some v) (hlt : ∀ u, A.st u = 1 → u < G.n) : IsBest W h A v :=
  ⟨(bestN_some hb).2.1, fun u hu => (bestN_some hb).2.2 u (hlt u hu) hu⟩

def chainF (came : Nat → Int) : Nat → Nat → Option (List Nat)
  | 0, _ => none
  | k + 1, v => if came v < 0 then some [v] else (chainF came k (came v).toNat).map (v :: ·)
theorem chainF_ok {came : Nat → Int} : ∀ {k v : Nat} {l : List Nat}, chainF came k v = some l → Chain came v l
  | 0, _, _, h => by cases h
  | k + 1, v, l, h => by
    unfold chainF at h
    split at h
    · next h0 => cases h; exact .stop h0
    · next h0 =>
      cases hc : chainF came k (came v).toNat
      · rw [hc] at h; cases h
      · rw [hc] at h
        cases h
        exact .go (by omega) (chainF_ok hc)

def runF (G : Net) (W : Int) (h : Nat → Int) (t : Nat) (b : Int) : Nat → AS → Option (List Nat × Int × Int × Int)
  | 0, _ => none
  | k + 1, A => match bestN W h A G.n with
    | none => some ([], 0, A.cnt, 22)
    | some v => if A.cnt = b then some ([], 0, A.cnt, 23) else if v = t then (chainF A.came (G.n + 1) t).map (fun l => (l.reverse, A.g t, A.cnt + 1, 0)) else runF G W h t b k (stepA G A v)

theorem rx_st (G : Net) (c : Nat) (A : AS) (m u : Nat) : (rx G c A m).st u = A.st u ∨ (u = m ∧ (rx G c A m).st u = 1 ∧ A.st u ≠ 2) := by
  unfold rx
  split
  · next h =>
    by_cases e : u = m
    · subst e; right; exact ⟨rfl, updN_same _ _ _, by rcases h with h | h <;> omega⟩
    · left; exact updN_ne _ _ e
  · left; rfl
theorem rx_c (G : Net) (c : Nat) (A : AS) (m : Nat) : (rx G c A m).cnt = A.cnt := by
  unfold rx; split <;> rfl
theorem rx_g2 (G : Net) (c : Nat) (A : AS) (m u : Nat) (h : A.st u = 2) : (rx G c A m).st u = 2 ∧ (rx G c A m).g u = A.g u ∧ (rx G c A m).came u = A.came u := by
  unfold rx
  split
  · next k =>
    have hne : u ≠ m := fun e => by subst e; rcases k with k | k <;> omega
    exact ⟨(updN_ne _ _ hne).trans h, updI_ne _ _ hne, updI_ne _ _ hne⟩
  · exact ⟨h, rfl, rfl⟩
theorem rxs_st (G : Net) (c : Nat) : ∀ (l : List Nat) (A : AS) (u : Nat), (rxs G c A l).st u = A.st u ∨ (u ∈ l ∧ (rxs G c A l).st u = 1 ∧ A.st u ≠ 2)
  | [], _, _ => .inl rfl
  | m :: l, A, u => by
    show (rxs G c (rx G c A m) l).st u = _ ∨ _ ∧ (rxs G c (rx G c A m) l).st u = 1 ∧ _
    rcases rxs_st G c l (rx G c A m) u with h | ⟨h1, h2, h3⟩
    · rcases rx_st G c A m u with k | ⟨k1, k2, k3⟩
      · exact .inl (h.trans k)
      · exact .inr ⟨k1 ▸ List.mem_cons_self, h.trans k2, k3⟩
    · refine .inr ⟨List.mem_cons_of_mem _ h1, h2, fun e => ?_⟩
      exact h3 (rx_g2 G c A m u e).1
theorem rxs_c (G : Net) (c : Nat) : ∀ (l : List Nat) (A : AS), (rxs G c A l).cnt = A.cnt
  | [], _ => rfl
  | m :: l, A => (rxs_c G c l (rx G c A m)).trans (rx_c G c A m)
theorem stepA_st (G : Net) (A : AS) (v u : Nat) : (u = v ∧ A.st v ≠ 2 → (stepA G A v).st u = 2) ∧ ((stepA G A v).st u = 2 → u = v ∨ A.st u = 2) ∧ ((stepA G A v).st u = 1 → A.st u = 1 ∨ u ∈ G.adj v) := by
  have hst : ∀ x, (A.settle v).st x = if x = v then 2 else A.st x := fun x => rfl
  have h := rxs_st G v (G.adj v) (A.settle v) u
  rw [hst] at h
  refine ⟨fun e => ?_, fun e => ?_, fun e => ?_⟩
  · rcases h with h | h
    · exact h.trans (if_pos e.1)
    · rw [if_pos e.1] at h; exact absurd rfl h.2.2
  · rcases h with h | h
    · by_cases k : u = v
      · exact .inl k
      · rw [if_neg k] at h; exact .inr (h.symm.trans e)
    · have := h.2.1
      have : (stepA G A v).st u = 1 := this
      omega
  · rcases h with h | h
    · by_cases k : u = v
      · rw [if_pos k] at h; have : (stepA G A v).st u = 2 := h; omega
      · rw [if_neg k] at h; exact .inl (h.symm.trans e)
    · exact .inr h.1
theorem stepA_c (G : Net) (A : AS) (v : Nat) : (stepA G A v).cnt = A.cnt + 1 := rxs_c G v _ _

theorem runF_ok {G : Net} {W : Int} {h : Nat → Int} {t : Nat} {b : Int} (hadj : ∀ v m, m ∈ G.adj v → m < G.n) : ∀ {k : Nat} {A : AS} {p : List Nat} {c n e : Int}, (∀ u, A.st u = 1 → u < G.n) → runF G W h t b k A = some (p, c, n, e) → ARun G W h t b A p c n e
  | 0, _, _, _, _, _, _, hr => by cases hr
  | k + 1, A, p, c, n, e, hlt, hr => by
    unfold runF at hr
    cases hb : bestN W h A G.n
    · rw [hb] at hr
      cases hr
      exact .none fun v hv => bestN_none hb v (hlt v hv) hv
    · rename_i v
      rw [hb] at hr
      simp only at hr
      have hB := bestN_best (G := G) hb hlt
      split at hr
      · next h1 => cases hr; exact .full v hB.1 h1
      · next h1 =>
        split at hr
        · next h2 =>
          subst h2
          cases hc : chainF A.came (G.n + 1) v
          · rw [hc] at hr; cases hr
          · rw [hc] at hr
            cases hr
            exact .found hB h1 (chainF_ok hc)
        · next h2 =>
          refine .next hB h1 h2 (runF_ok hadj (fun u hu => ?_) hr)
          rcases (stepA_st G A v u).2.2 hu with k | k
          · exact hlt u k
          · exact hadj v u k

section
variable {G : Net} {D : Nat → Int} {s : Nat} {A : AS} {pend : Nat → Nat → Prop}

theorem sinv_rxs (F : IsFar G s D) (hn : G.n ≤ 1000000) {c : Nat} : ∀ (l : List Nat) {A : AS} {pend : Nat → Nat → Prop}, SInv G D s A pend → A.st c = 2 → (∀ m, m ∈ l → G.op m = true ∧ m ∈ G.adj c) → SInv G D s (rxs G c A l) (fun u v => pend u v ∧ ¬ (u = c ∧ v ∈ l))
  | [], A, pend, I, _, _ => I.weaken fun _ _ _ _ h => ⟨h, fun k => by cases k.2⟩
  | m :: l, A, pend, I, hc, hl => by
    have hm := hl m List.mem_cons_self
    have I2 := sinv_rx I F hn hc hm.1 hm.2
    refine (sinv_rxs F hn l I2 (rx_g2 G c A m c hc).1 (fun x hx => hl x (List.mem_cons_of_mem _ hx))).weaken fun u v _ _ h => ⟨h.1.1, fun k => ?_⟩
    rcases List.mem_cons.1 k.2 with e | e
    · exact h.1.2 ⟨k.1, e⟩
    · exact h.2 ⟨k.1, e⟩
theorem sinv_step (I : SInv G D s A (fun _ _ => False)) (F : IsFar G s D) (hn : G.n ≤ 1000000) {h : Nat → Int} (hg : Guess G h) (hadj : ∀ v m, m ∈ G.adj v → G.op m = true) {W : Int} {v : Nat} (hb : IsBest W h A v) : SInv G D s (stepA G A v) (fun _ _ => False) := by
  have I1 := sinv_settle I hb.1 (sinv_best I F hn hg hb).1
  have h2 : (A.settle v).st v = 2 := updN_same _ _ _
  exact (sinv_rxs F hn (G.adj v) I1 h2 (fun m hm => ⟨hadj v m hm, hm⟩)).weaken fun u x _ _ k => k.2 k.1

/-- A chain is a way, and so in each net that has its cells as they are. -/
theorem chain_way (I : SInv G D s A pend) {K : Net} {v : Nat} {l : List Nat} (hc : Chain A.came v l) : A.st v ≠ 0 → (∀ u, u ∈ l → K.op u = true ∧ K.cost u = G.cost u) → (∀ u x, u ∈ l → x ∈ l → x ∈ G.adj u → x ∈ K.adj u) → Way K s v (A.g v) := by
  induction hc with
  | stop h0 =>
    rename_i v
    intro hv h1 _
    by_cases e : v = s
    · subst e
      rw [I.sg]
      exact .start (h1 v List.mem_cons_self).1
    · obtain ⟨u, hu, _⟩ := I.back v hv e
      omega
  | go h0 hcc ih =>
    rename_i v u l
    intro hv h1 h2
    by_cases e : v = s
    · subst e
      have := I.sc
      omega
    · obtain ⟨u', hu, k1, k2, k3⟩ := I.back v hv e
      have : u' = u := by omega
      subst this
      have hmu : u' ∈ l := by cases hcc <;> exact List.mem_cons_self
      have hw := ih (by omega) (fun x hx => h1 x (List.mem_cons_of_mem _ hx)) (fun x y hx hy => h2 x y (List.mem_cons_of_mem _ hx) (List.mem_cons_of_mem _ hy))
      have ha := h2 u' v (List.mem_cons_of_mem _ hmu) List.mem_cons_self k2
      have ho := h1 v List.mem_cons_self
      have hou := h1 u' (List.mem_cons_of_mem _ hmu)
      refine (Way.step hw (K.sym v u' ho.1 hou.1 ha) ho.1).cast ?_
      rw [ho.2]; exact k3.symm
end

theorem run_cnt {G : Net} {W : Int} {h : Nat → Int} {t : Nat} {b : Int} {A : AS} {p : List Nat} {c k e : Int} (r : ARun G W h t b A p c k e) : A.cnt ≤ k := by
  induction r with
  | none _ => exact Int.le_refl _
  | full _ _ _ => exact Int.le_refl _
  | found _ _ _ => omega
  | next _ _ _ _ ih => rw [stepA_c] at ih; omega

/-- What a smaller budget does. -/
theorem run_budget {G : Net} {W : Int} {h : Nat → Int} {t : Nat} {m : Int} {A : AS} {p : List Nat} {c k e : Int} (r : ARun G W h t m A p c k e) (he : e ≠ 23) {b : Int} (hb : A.cnt ≤ b) : (b < k → ARun G W h t b A [] 0 b 23) ∧ (k ≤ b → ARun G W h t b A p c k e) := by
  induction r with
  | none h0 => exact ⟨fun hk => by omega, fun _ => .none h0⟩
  | full _ _ _ => exact absurd rfl he
  | found hB hn hc =>
    rename_i A l
    by_cases e1 : A.cnt = b
    · exact ⟨fun _ => by rw [← e1]; exact .full t hB.1 rfl, fun hk => by omega⟩
    · exact ⟨fun hk => by omega, fun _ => .found hB e1 hc⟩
  | next hB hn hv r ih =>
    rename_i A v p c k e
    have hk := run_cnt r
    rw [stepA_c] at hk
    by_cases e1 : A.cnt = b
    · exact ⟨fun _ => by rw [← e1]; exact .full v hB.1 rfl, fun hk2 => by omega⟩
    · have := ih he (by rw [stepA_c]; omega)
      exact ⟨fun h1 => .next hB e1 hv (this.1 h1), fun h1 => .next hB e1 hv (this.2 h1)⟩

/-- How a run ends. -/
structure Found (G : Net) (D : Nat → Int) (s t : Nat) (p : List Nat) (c : Int) : Prop where
  cost : c = D t
  fin : D t < infI
  way : ∀ K : Net, (∀ u, u ∈ p → K.op u = true ∧ K.cost u = G.cost u) → (∀ u x, u ∈ p → x ∈ p → x ∈ G.adj u → x ∈ K.adj u) → Way K s t c

theorem run_end {G : Net} {W : Int} {h : Nat → Int} {t s : Nat} {b : Int} {A : AS} {D : Nat → Int} {p : List Nat} {c k e : Int} (r : ARun G W h t b A p c k e) (I : SInv G D s A (fun _ _ => False)) (F : IsFar G s D) (hn : G.n ≤ 1000000) (hg : Guess G h) (hadj : ∀ v m, m ∈ G.adj v → G.op m = true) (ht : A.st t ≠ 2) : k ≤ G.n ∧ ((e = 0 ∧ Found G D s t p c) ∨ (e = 22 ∧ D t = infI ∧ p = [] ∧ c = 0) ∨ (e = 23 ∧ p = [] ∧ c = 0 ∧ k = b ∧ b < G.n)) := by
  induction r with
  | none h0 =>
    have hf := I.few
    refine ⟨hf.2, .inr (.inl ⟨rfl, ?_, rfl, rfl⟩)⟩
    by_cases hD : D t < infI
    · exact absurd (sinv_end I F h0 hD) ht
    · have := F.le t; omega
  | full v hv hc =>
    have := I.opens hv
    exact ⟨by omega, .inr (.inr ⟨rfl, rfl, rfl, hc, by omega⟩)⟩
  | found hB hb hc =>
    rename_i A l
    have h1 := sinv_best I F hn hg hB
    have h2 := I.opens hB.1
    refine ⟨by omega, .inl ⟨rfl, h1.1, by omega, fun K k1 k2 => ?_⟩⟩
    exact chain_way I hc (by have := hB.1; omega) (fun u hu => k1 u (List.mem_reverse.2 hu)) (fun u x hu hx => k2 u x (List.mem_reverse.2 hu) (List.mem_reverse.2 hx))
  | next hB hb hv r ih =>
    rename_i A v p c k e
    refine ih (sinv_step I F hn hg hadj hB) fun h2 => ?_
    rcases (stepA_st G A v t).2.1 h2 with k | k
    · exact hv k.symm
    · exact ht k
end Go.Proofs.Ytifbmapianddcaa

/- The laws of layer 10 in plain words: what a search comes to; with another budget; there and back; and on a map that costs more. -/
namespace Go.Proofs.Ytifbmapianddcaa

theorem count_lt2 {α : Type} {p q : α → Bool} : ∀ {l : List α}, (∀ a ∈ l, p a = true → q a = true) → (∃ a ∈ l, q a = true ∧ p a = false) → l.countP p < l.countP q
  | [], _, ⟨a, h, _⟩ => by cases h
  | b :: l, hpq, ⟨a, ha, hq, hp⟩ => by
    rw [List.countP_cons, List.countP_cons]
    have hmono : l.countP p ≤ l.countP q := List.countP_mono_left fun x hx => hpq x (List.mem_cons_of_mem _ hx)
    by_cases hab : a = b
    · subst hab
      rw [hq, hp]; simp; omega
    · have hal : a ∈ l := by
        rcases List.mem_cons.1 ha with h | h
        · exact absurd h hab
        · exact h
      have := count_lt2 (fun x hx => hpq x (List.mem_cons_of_mem _ hx)) ⟨a, hal, hq, hp⟩
      have hb := hpq b List.mem_cons_self
      cases h : p b
      · split <;> split <;> simp_all <;> omega
      · rw [hb h]; simp; omega


theorem IsFar.low {G : Net} {s : Nat} {f : Nat → Int} (hf : IsFar G s f) : ∀ (k : Nat) (v : Nat), f v = (k : Int) → f v < infI → f v ≤ 65535 * (((List.range G.n).countP (fun u => decide (f u < f v)) : Nat) : Int) := by
  intro k
  induction k using Nat.strongRecOn with
  | _ k ih =>
    intro v hv hk
    have ho := hf.open_ hk
    by_cases hs : v = s
    · subst hs
      rw [hf.start ho]
      omega
    · obtain ⟨u, hu, huo, he⟩ := hf.from_ v ho hs hk
      have hc := G.pos v ho
      have ht := G.top v ho
      have hn := hf.nn u
      have h1 := ih (f u).toNat (by omega) u (by omega) (by omega)
      have h2 := count_lt2 (l := List.range G.n) (p := fun x => decide (f x < f u)) (q := fun x => decide (f x < f v)) (fun x _ hx => by simp at hx ⊢; omega) ⟨u, List.mem_range.2 (G.lt u huo), by simp; omega, by simp⟩
      omega
theorem far_low {G : Net} {s : Nat} {f : Nat → Int} (hf : IsFar G s f) : FarLow G f := fun v hv => by
  have h1 := hf.low (f v).toNat v (by have := hf.nn v; omega) hv
  have h2 := List.countP_le_length (p := fun u => decide (f u < f v)) (l := List.range G.n)
  rw [List.length_range] at h2
  omega

def hT (W : Int) (t : Nat) (v : Nat) : Int := manh (vx W v) (vy W v) (vx W t) (vy W t)

/-- What a search comes to: path, cost, settled, error. -/
def SrchN (G : Net) (W : Int) (s t : Nat) (b : Int) (p : List Nat) (c k e : Int) : Prop :=
  (G.op s = true ∧ G.op t = true ∧ ARun G W (hT W t) t b (start0 s) p c k e) ∨ (¬ (G.op s = true ∧ G.op t = true) ∧ p = [] ∧ c = 0 ∧ k = 0 ∧ e = 22)
def Srch (W H : Int) (l : List Int) (x y tx ty b : Int) (p : List Nat) (c k e : Int) : Prop :=
  (findE W H l.length x y tx ty b ≠ 0 ∧ p = [] ∧ c = 0 ∧ k = 0 ∧ e = findE W H l.length x y tx ty b) ∨
  (findE W H l.length x y tx ty b = 0 ∧ ∃ L : LandP W H l 0 0 W H, SrchN (mapNet L) W (idxN W (x, y)) (idxN W (tx, ty)) b p c k e)

theorem SrchN.one {G : Net} {W : Int} (hW : 1 ≤ W) {s t : Nat} {b : Int} {p p' : List Nat} {c c' k k' e e' : Int} (h : SrchN G W s t b p c k e) (h' : SrchN G W s t b p' c' k' e') : p = p' ∧ c = c' ∧ k = k' ∧ e = e' := by
  rcases h with ⟨h1, h2, h3⟩ | ⟨h1, rfl, rfl, rfl, rfl⟩
  · rcases h' with ⟨_, _, k3⟩ | ⟨k1, _⟩
    · exact h3.one hW k3
    · exact absurd ⟨h1, h2⟩ k1
  · rcases h' with ⟨k1, k2, _⟩ | ⟨_, rfl, rfl, rfl, rfl⟩
    · exact absurd ⟨k1, k2⟩ h1
    · exact ⟨rfl, rfl, rfl, rfl⟩
theorem Srch.one {W H : Int} {l : List Int} {x y tx ty b : Int} {p p' : List Nat} {c c' k k' e e' : Int} (h : Srch W H l x y tx ty b p c k e) (h' : Srch W H l x y tx ty b p' c' k' e') : p = p' ∧ c = c' ∧ k = k' ∧ e = e' := by
  rcases h with ⟨h1, rfl, rfl, rfl, rfl⟩ | ⟨h1, L, h2⟩
  · rcases h' with ⟨_, rfl, rfl, rfl, rfl⟩ | ⟨k1, _⟩
    · exact ⟨rfl, rfl, rfl, rfl⟩
    · exact absurd k1 h1
  · rcases h' with ⟨k1, _⟩ | ⟨_, _, k2⟩
    · exact absurd h1 k1
    · exact h2.one L.wh.1 k2

/-- What is known of a search in a net. -/
structure NetOk (G : Net) (W : Int) (t : Nat) : Prop where
  few : G.n ≤ 1000000
  guess : Guess G (hT W t)
  adj : ∀ v m, m ∈ G.adj v → G.op m = true
theorem netOk {W H : Int} {l : List Int} (L : LandP W H l 0 0 W H) (t : Nat) : NetOk (mapNet L) W t :=
  ⟨(by have := L.wh; have := mul_bd (a := W) (b := H) (A := 256) (B := 256) (by omega) (by omega) (by omega) (by omega); have := L.len; show l.length ≤ 1000000; omega), guess_ok L (fun _ => rfl), fun _ _ h => adj_op L h⟩

theorem SrchN.ends {G : Net} {W : Int} {s t : Nat} (N : NetOk G W t) {b : Int} {p : List Nat} {c k e : Int} (h : SrchN G W s t b p c k e) {D : Nat → Int} (F : IsFar G s D) : 0 ≤ k ∧ k ≤ G.n ∧
    ((e = 0 ∧ G.op s = true ∧ Found G D s t p c) ∨ (e = 22 ∧ p = [] ∧ c = 0 ∧ (¬ (G.op s = true ∧ G.op t = true) ∨ (G.op s = true ∧ D t = infI))) ∨ (e = 23 ∧ p = [] ∧ c = 0 ∧ k = b ∧ b < G.n)) := by
  rcases h with ⟨h1, h2, h3⟩ | ⟨h1, rfl, rfl, rfl, rfl⟩
  · have hc := run_cnt h3
    obtain ⟨a1, a2⟩ := run_end h3 (sinv_start h1 F) F N.few N.guess N.adj (by
      show updN (fun _ => 0) s 1 t ≠ 2
      unfold updN
      split <;> simp)
    refine ⟨hc, a1, ?_⟩
    rcases a2 with ⟨e0, a⟩ | ⟨e0, a, b1, b2⟩ | ⟨e0, b1, b2, b3, b4⟩
    · exact .inl ⟨e0, h1, a⟩
    · exact .inr (.inl ⟨e0, b1, b2, .inr ⟨h1, a⟩⟩)
    · exact .inr (.inr ⟨e0, b1, b2, b3, b4⟩)
  · exact ⟨Int.le_refl _, by omega, .inr (.inl ⟨rfl, rfl, rfl, .inl h1⟩)⟩

theorem run_path {G : Net} {W : Int} {h : Nat → Int} {t : Nat} {b : Int} {A : AS} {p : List Nat} {c k e : Int} (r : ARun G W h t b A p c k e) : e = 0 → p ≠ [] := by
  induction r with
  | none _ => intro h; cases h
  | full _ _ _ => intro h; cases h
  | found _ _ hc => intro _ h; cases hc <;> simp at h
  | next _ _ _ _ ih => exact ih

/-- With another budget. -/
theorem srch_budget {W H : Int} {l : List Int} {x y tx ty b : Int} {p1 p2 : List Nat} {c1 c2 k1 k2 e1 e2 : Int} (h1 : Srch W H l x y tx ty l.length p1 c1 k1 e1) (h2 : Srch W H l x y tx ty b p2 c2 k2 e2) :
    (e1 ≠ 0 ∧ e1 ≠ 22 ∧ e2 = e1 ∧ p2 = [] ∧ k2 = 0) ∨
    ((e1 = 0 ∨ e1 = 22) ∧ b < 0 ∧ e2 = 1 ∧ p2 = [] ∧ k2 = 0) ∨
    ((e1 = 0 ∨ e1 = 22) ∧ 0 ≤ b ∧ b < k1 ∧ e2 = 23 ∧ p2 = [] ∧ c2 = 0 ∧ k2 = b) ∨
    ((e1 = 0 ∨ e1 = 22) ∧ 0 ≤ b ∧ k1 ≤ b ∧ e2 = e1 ∧ p2 = p1 ∧ c2 = c1 ∧ k2 = k1) := by
  rcases h1 with ⟨n1, rfl, rfl, rfl, rfl⟩ | ⟨n1, L, s1⟩
  · -- refused
    have hv : findE W H l.length x y tx ty (l.length : Nat) = 10 ∨ findE W H l.length x y tx ty (l.length : Nat) = 12 := by
      revert n1
      unfold findE checkE
      repeat' split
      all_goals (first | omega | (intro h; exact absurd rfl h) | simp)
    left
    refine ⟨n1, by omega, ?_⟩
    rcases h2 with ⟨n2, rfl, rfl, rfl, rfl⟩ | ⟨n2, L, s2⟩
    · refine ⟨?_, rfl, rfl⟩
      revert n1 n2
      unfold findE
      repeat' split
      all_goals (first | omega | simp)
    · exfalso
      obtain ⟨a1, a2, a3, a4⟩ := findE_ok.1 n2
      exact n1 (findE_ok.2 ⟨a1, a2, a3, by omega⟩)
  · obtain ⟨a1, a2, a3, a4⟩ := findE_ok.1 n1
    rcases h2 with ⟨n2, rfl, rfl, rfl, rfl⟩ | ⟨n2, L2, s2⟩
    · -- the budget is below 0
      have hb : b < 0 := by
        by_cases h : 0 ≤ b
        · exact absurd (findE_ok.2 ⟨a1, a2, a3, h⟩) n2
        · omega
      have he : findE W H l.length x y tx ty b = 1 := by
        unfold findE
        rw [if_pos a1, if_pos ⟨a2, a3⟩, if_pos hb]
      right; left
      refine ⟨?_, hb, he, rfl, rfl⟩
      by_cases ho : (mapNet L).op (idxN W (x, y)) = true
      · obtain ⟨D, F⟩ := far_ex _ _ ho
        rcases (s1.ends (netOk L _) F).2.2 with h | h | h
        · exact .inl h.1
        · exact .inr h.1
        · exfalso
          have : (mapNet L).n = l.length := rfl
          omega
      · rcases s1 with h | h
        · exact absurd h.1 ho
        · exact .inr h.2.2.2.2
    · obtain ⟨_, _, _, hb⟩ := findE_ok.1 n2
      rcases s1 with ⟨o1, o2, r1⟩ | ⟨no, rfl, rfl, rfl, rfl⟩
      · obtain ⟨D, F⟩ := far_ex _ _ o1
        have hE := SrchN.ends (netOk L _) (.inl ⟨o1, o2, r1⟩) F
        have h23 : e1 ≠ 23 := fun h => by
          have : (mapNet L).n = l.length := rfl
          rcases hE.2.2 with h' | h' | h'
          · have := h'.1; omega
          · have := h'.1; omega
          · omega
        have he1 : e1 = 0 ∨ e1 = 22 := by
          rcases hE.2.2 with h' | h' | h'
          · exact .inl h'.1
          · exact .inr h'.1
          · exact absurd h'.1 h23
        have hB := run_budget r1 h23 (b := b) hb
        by_cases hk : b < k1
        · obtain ⟨rfl, rfl, rfl, rfl⟩ := SrchN.one L.wh.1 s2 (.inl ⟨o1, o2, hB.1 hk⟩)
          exact .inr (.inr (.inl ⟨he1, hb, hk, rfl, rfl, rfl, rfl⟩))
        · obtain ⟨rfl, rfl, rfl, rfl⟩ := SrchN.one L.wh.1 s2 (.inl ⟨o1, o2, hB.2 (by omega)⟩)
          exact .inr (.inr (.inr ⟨he1, hb, by omega, rfl, rfl, rfl, rfl⟩))
      · rcases s2 with ⟨o1, o2, _⟩ | ⟨_, rfl, rfl, rfl, rfl⟩
        · exact absurd ⟨o1, o2⟩ no
        · exact .inr (.inr (.inr ⟨.inr rfl, hb, hb, rfl, rfl, rfl, rfl⟩))

theorem full_ends {W H : Int} {l : List Int} (L : LandP W H l 0 0 W H) {s t : Nat} {p : List Nat} {c k e : Int} (h : SrchN (mapNet L) W s t l.length p c k e) :
    (e = 0 ∧ p ≠ [] ∧ (mapNet L).op s = true ∧ (mapNet L).op t = true ∧ ∃ D, IsFar (mapNet L) s D ∧ Found (mapNet L) D s t p c) ∨ (e = 22 ∧ p = [] ∧ c = 0 ∧ ∀ d, Way (mapNet L) s t d → infI ≤ d) := by
  by_cases ho : (mapNet L).op s = true
  · obtain ⟨D, F⟩ := far_ex _ _ ho
    rcases (h.ends (netOk L _) F).2.2 with ⟨a1, a2, a3⟩ | ⟨a1, a2, a3, a4⟩ | a
    · refine .inl ⟨a1, ?_, ho, F.open_ a3.fin, D, F, a3⟩
      rcases h with h | h
      · exact run_path h.2.2 a1
      · rw [a1] at h; exact absurd h.2.2.2.2 (by decide)
    · refine .inr ⟨a1, a2, a3, fun d hw => ?_⟩
      rcases a4 with a4 | a4
      · exact absurd ⟨hw.ends.1, hw.ends.2.1⟩ a4
      · by_cases hd : d < infI
        · have := F.le_way hw hd
          omega
        · omega
    · exfalso
      have : (mapNet L).n = l.length := rfl
      omega
  · rcases h with h | ⟨h1, h2, h3, h4, h5⟩
    · exact absurd h.1 ho
    · exact .inr ⟨h5, h2, h3, fun d hw => absurd hw.ends.1 ho⟩

/-- There and back. -/
theorem srch_own {W H : Int} {l : List Int} {x y tx ty : Int} {p1 p2 : List Nat} {c1 c2 k1 k2 e1 e2 : Int} (h1 : Srch W H l x y tx ty l.length p1 c1 k1 e1) (h2 : Srch W H l tx ty x y l.length p2 c2 k2 e2) :
    e1 = e2 ∧ ((e1 ≠ 0 ∧ p1 = [] ∧ p2 = []) ∨ (e1 = 0 ∧ p1 ≠ [] ∧ inB W H x y = true ∧ inB W H tx ty = true ∧ LandP W H l 0 0 W H ∧ c1 + l.getD (idxN W (x, y)) 0 = c2 + l.getD (idxN W (tx, ty)) 0 ∧ 0 ≤ c1 ∧ c1 ≤ 1000000000000 ∧ 0 ≤ c2 ∧ c2 ≤ 1000000000000)) := by
  have hsw : findE W H l.length tx ty x y l.length = findE W H l.length x y tx ty l.length := by
    unfold findE
    split
    · by_cases k : inB W H x y = true ∧ inB W H tx ty = true
      · rw [if_pos k, if_pos ⟨k.2, k.1⟩]
      · rw [if_neg k, if_neg (fun e => k ⟨e.2, e.1⟩)]
    · rfl
  rcases h1 with ⟨n1, rfl, rfl, rfl, rfl⟩ | ⟨n1, L, s1⟩
  · rcases h2 with ⟨n2, rfl, rfl, rfl, rfl⟩ | ⟨n2, _⟩
    · exact ⟨hsw.symm, .inl ⟨n1, rfl, rfl⟩⟩
    · exact absurd (hsw.symm.trans n2) n1
  · rcases h2 with ⟨n2, _⟩ | ⟨n2, _, s2⟩
    · exact absurd (hsw.trans n1) n2
    · obtain ⟨a1, a2, a3, a4⟩ := findE_ok.1 n1
      have N := netOk L (idxN W (x, y))
      rcases full_ends L s1 with ⟨e1, q1, o1, o2, D1, F1, f1⟩ | ⟨e1, q1, _, w1⟩
      · rcases full_ends L s2 with ⟨e2, q2, _, _, D2, F2, f2⟩ | ⟨e2, q2, _, w2⟩
        · have b1 := IsFar.backs N.few F1 F2 (far_low F1) f1.fin
          have b2 := IsFar.backs N.few F2 F1 (far_low F2) f2.fin
          have l1 := far_low F1 _ f1.fin
          have l2 := far_low F2 _ f2.fin
          have g1 := F1.nn (idxN W (tx, ty))
          have g2 := F2.nn (idxN W (x, y))
          have hf := N.few
          have j1 := f1.cost
          have j2 := f2.cost
          refine ⟨e1.trans e2.symm, .inr ⟨e1, q1, a2, a3, L, ?_, ?_, ?_, ?_, ?_⟩⟩
          · show c1 + (mapNet L).cost _ = c2 + (mapNet L).cost _
            omega
          all_goals omega
        · exfalso
          have wb := (F1.way_of f1.fin).back
          have := w2 _ wb
          have l1 := far_low F1 _ f1.fin
          have hf := N.few
          have := (mapNet L).top _ o1
          have := (mapNet L).pos _ o2
          have : infI = 18446744073709551615 := rfl
          omega
      · rcases full_ends L s2 with ⟨e2, q2, o1, o2, D2, F2, f2⟩ | ⟨e2, q2, _, w2⟩
        · exfalso
          have wb := (F2.way_of f2.fin).back
          have := w1 _ wb
          have l1 := far_low F2 _ f2.fin
          have hf := N.few
          have := (mapNet L).top _ o1
          have := (mapNet L).pos _ o2
          have : infI = 18446744073709551615 := rfl
          omega
        · exact ⟨e1.trans e2.symm, .inl ⟨by omega, q1, q2⟩⟩

/-- A way where all costs turn, but nothing is shut. -/
theorem Way.dear {G K : Net} (ho : ∀ v, G.op v = true → K.op v = true) (ha : ∀ u v, G.op u = true → G.op v = true → u ∈ G.adj v → u ∈ K.adj v) {s v : Nat} {c : Int} (h : Way G s v c) : ∃ d, d ≤ 65535 * c ∧ Way K s v d := by
  induction h with
  | start h => exact ⟨0, by omega, .start (ho _ h)⟩
  | step w hu hov ih =>
    obtain ⟨d, h1, h2⟩ := ih
    have := K.top _ (ho _ hov)
    have := G.pos _ hov
    exact ⟨_, by omega, Way.step h2 (ha _ _ w.ends.2.1 hov hu) (ho _ hov)⟩

theorem op_iff {W H : Int} {l : List Int} (L : LandP W H l 0 0 W H) (v : Nat) : (mapNet L).op v = true ↔ v < l.length ∧ 0 < l.getD v 0 := by
  show opV (openB l W 0 0 W H) W l.length v = true ↔ _
  unfold opV openB
  simp only [Bool.and_eq_true, decide_eq_true_eq]
  rw [L.cost_v v]
  constructor
  · intro h; exact ⟨h.1, h.2.2⟩
  · intro h
    refine ⟨h.1, hasB_true.2 ?_, h.2⟩
    have := L.v_in h.1
    omega
theorem adj_mono {W H : Int} {l l' : List Int} (L : LandP W H l 0 0 W H) (L' : LandP W H l' 0 0 W H) {u x : Nat} (h : x ∈ (mapNet L).adj u) (hx : 0 < l'.getD x 0) : x ∈ (mapNet L').adj u := by
  obtain ⟨p, hp, rfl⟩ := List.mem_map.1 h
  obtain ⟨k, hk, ho, rfl⟩ := mem_nbC.1 hp
  refine List.mem_map.2 ⟨_, mem_nbC.2 ⟨k, hk, ?_, rfl⟩, rfl⟩
  unfold openB
  rw [(open_has ho).1, cost_idx]
  simpa using hx

theorem run_few {G : Net} {W : Int} {h : Nat → Int} {t s : Nat} {b : Int} {A : AS} {D : Nat → Int} {p : List Nat} {c k e : Int} (r : ARun G W h t b A p c k e) (I : SInv G D s A (fun _ _ => False)) (F : IsFar G s D) (hn : G.n ≤ 1000000) (hg : Guess G h) (hadj : ∀ v m, m ∈ G.adj v → G.op m = true) : p.Nodup ∧ ∀ u, u ∈ p → G.op u = true := by
  induction r with
  | none h0 => exact ⟨List.nodup_nil, fun u hu => by cases hu⟩
  | full v hv hc => exact ⟨List.nodup_nil, fun u hu => by cases hu⟩
  | found hB hb hc =>
    rename_i A l
    have h1 := sinv_best I F hn hg hB
    have h0 := F.nn t
    have h2 := hB.1
    obtain ⟨l2, c1, c2, c3⟩ := chain_ex I (A.g t).toNat t (by omega) (by omega)
    have := hc.one c1
    subst this
    exact ⟨List.pairwise_reverse.2 (c3.imp (fun h => Ne.symm h)), fun u hu => I.op u (c2 u (List.mem_reverse.1 hu)).1⟩
  | next hB hb hv r ih => exact ih (sinv_step I F hn hg hadj hB)

theorem SrchN.path {G : Net} {W : Int} {s t : Nat} (N : NetOk G W t) {b : Int} {p : List Nat} {c k e : Int} (h : SrchN G W s t b p c k e) : p.length ≤ G.n ∧ ∀ u, u ∈ p → G.op u = true := by
  rcases h with ⟨h1, h2, h3⟩ | ⟨h1, rfl, rfl, rfl, rfl⟩
  · obtain ⟨D, F⟩ := far_ex _ _ h1
    obtain ⟨a, b⟩ := run_few h3 (sinv_start h1 F) F N.few N.guess N.adj
    exact ⟨nodup_le a (fun u hu => G.lt u (b u hu)), b⟩
  · exact ⟨Nat.zero_le _, fun u hu => by cases hu⟩

/-- Where all costs as much or more. -/
theorem srch_more {W H : Int} {l l' : List Int} (hlen : l'.length = l.length) (hm : ∀ v, 0 < l'.getD v 0 → 0 < l.getD v 0 ∧ l.getD v 0 ≤ l'.getD v 0) (j : Nat) (hj : ∀ v, v ≠ j → l'.getD v 0 = l.getD v 0) {x y tx ty : Int} {p1 p2 : List Nat} {c1 c2 k1 k2 e1 e2 : Int} (h1 : Srch W H l x y tx ty l.length p1 c1 k1 e1) (h2 : Srch W H l' x y tx ty l'.length p2 c2 k2 e2) :
    (e1 ≠ 0 ∧ e2 = e1 ∧ p2 = []) ∨ (e1 = 0 ∧ p1.length ≤ l.length ∧ (∀ u, u ∈ p1 → u < l.length) ∧ (j ∉ p1 → e2 = 0 ∧ c2 = c1) ∧ ((e2 = 0 ∧ c1 ≤ c2) ∨ (e2 = 22 ∧ l'.getD j 0 = 0 ∧ p2 = []))) := by
  have hu' := h2
  unfold Srch at hu'
  rw [hlen] at hu'
  rcases h1 with ⟨n1, rfl, rfl, rfl, rfl⟩ | ⟨n1, L, s1⟩
  · rcases hu' with ⟨n2, rfl, rfl, rfl, rfl⟩ | ⟨n2, _⟩
    · exact .inl ⟨n1, rfl, rfl⟩
    · exact absurd n2 n1
  · rcases hu' with ⟨n2, _⟩ | ⟨n2, L', s2⟩
    · exact absurd n1 n2
    · have N := netOk L (idxN W (tx, ty))
      have hinf : infI = 18446744073709551615 := rfl
      have hsub : (mapNet L').Sub (mapNet L) := ⟨fun v hv => by
          obtain ⟨a, b⟩ := (op_iff L' v).1 hv
          exact (op_iff L v).2 ⟨by omega, (hm v b).1⟩, fun v hv => (hm v ((op_iff L' v).1 hv).2).2, fun u v hu _ ha => adj_mono L' L ha (hm u ((op_iff L' u).1 hu).2).1⟩
      rw [← hlen] at s2
      rcases full_ends L s1 with ⟨rfl, q1, o1, o2, D1, F1, f1⟩ | ⟨rfl, q1, _, w1⟩
      · right
        have hp := s1.path N
        have l1 := far_low F1 _ f1.fin
        have hf := N.few
        refine ⟨rfl, hp.1, fun u hu => (mapNet L).lt u (hp.2 u hu), ?_, ?_⟩
        · intro hnot
          have hw : Way (mapNet L') (idxN W (x, y)) (idxN W (tx, ty)) c1 := f1.way (mapNet L') (fun u hu => by
            have hne : u ≠ j := fun e => hnot (e ▸ hu)
            have ho := (op_iff L u).1 (hp.2 u hu)
            exact ⟨(op_iff L' u).2 ⟨by omega, by rw [hj u hne]; exact ho.2⟩, hj u hne⟩) (fun u z hu hz ha => by
            have hne : z ≠ j := fun e => hnot (e ▸ hz)
            have ho := (op_iff L z).1 (hp.2 z hz)
            exact adj_mono L L' ha (by rw [hj z hne]; exact ho.2))
          have hcl : c1 < infI := by have := f1.cost; have := f1.fin; omega
          rcases full_ends L' s2 with ⟨rfl, q2, _, _, D2, F2, f2⟩ | ⟨rfl, q2, _, w2⟩
          · refine ⟨rfl, ?_⟩
            have a1 := F2.le_way hw hcl
            have a2 := F2.sub_le hsub F1 (idxN W (tx, ty))
            have := f1.cost
            have := f2.cost
            omega
          · have := w2 _ hw
            omega
        · rcases full_ends L' s2 with ⟨rfl, q2, _, _, D2, F2, f2⟩ | ⟨rfl, q2, _, w2⟩
          · have a2 := F2.sub_le hsub F1 (idxN W (tx, ty))
            have := f1.cost
            have := f2.cost
            exact .inl ⟨rfl, by omega⟩
          · refine .inr ⟨rfl, ?_, q2⟩
            by_cases h0 : 0 < l'.getD j 0
            · exfalso
              have hpos : ∀ v, 0 < l.getD v 0 → 0 < l'.getD v 0 := fun v hv => by
                by_cases e : v = j
                · rw [e]; exact h0
                · rw [hj v e]; exact hv
              obtain ⟨d, hd, hw⟩ := (F1.way_of f1.fin).dear (K := mapNet L') (fun v hv => by
                obtain ⟨a, b⟩ := (op_iff L v).1 hv
                exact (op_iff L' v).2 ⟨by omega, hpos v b⟩) (fun u v hu _ ha => adj_mono L L' ha (hpos u ((op_iff L u).1 hu).2))
              have := w2 _ hw
              omega
            · have := (costI_bd L'.u16 W (vx W j, vy W j)).1
              rw [L'.cost_v j] at this
              omega
      · left
        refine ⟨by decide, ?_⟩
        rcases full_ends L' s2 with ⟨rfl, q2, _, _, D2, F2, f2⟩ | ⟨rfl, q2, _, w2⟩
        · exfalso
          obtain ⟨d, hd, hw⟩ := (F2.way_of f2.fin).sub hsub
          have := w1 _ hw
          have := f2.fin
          omega
        · exact ⟨rfl, q2⟩
end Go.Proofs.Ytifbmapianddcaa

/- star.Find in one contract. -/
namespace Go.Proofs.Ytifbmapianddcaa
open Go.RowKit

def Finds (W H : Int) (l : List Int) (x y tx ty b : Int) (base : Nat) (e : Ending) (w' : World) : Prop :=
  ∃ (p : List Nat) (c k er : Int) (v : Value), Srch W H l x y tx ty b p c k er ∧ e = .returned (.tuple #[.agg #[v, .int .u64 c, .int .i64 k], .int .i64 er]) ∧ Own cellE w' base 28 v (p.map (cellV W))

theorem sFind_uni {w : World} (W H : Int) (a : Option Addr) {l : List Int} (c : Nat) (x y tx ty b : Int) (hr : Row16 w a l) (hu : U16s l) :
    Calls Try.prog 18 #[.agg #[.int .i64 W, .int .i64 H, .slice a l.length c], .agg #[.int .i64 x, .int .i64 y], .agg #[.int .i64 tx, .int .i64 ty], .int .i64 b] w fun e w' => Ext w w' ∧ Finds W H l x y tx ty b w.heap.size e w' := by
  by_cases he : findE W H l.length x y tx ty b = 0
  · refine (sFind_any c he hr hu).mono ?_
    rintro e w' ⟨hx, h1, h2⟩
    refine ⟨hx, ?_⟩
    by_cases ho : (mapNet (landP_of (whole_of he).1 hu)).op (idxN W (x, y)) = true ∧ (mapNet (landP_of (whole_of he).1 hu)).op (idxN W (tx, ty)) = true
    · obtain ⟨p, cc, k, er, v, a1, a2, a3⟩ := h1 ho
      exact ⟨p, cc, k, er, v, .inr ⟨he, _, .inl ⟨ho.1, ho.2, a1⟩⟩, a2, a3⟩
    · exact ⟨[], 0, 0, 22, _, .inr ⟨he, landP_of (whole_of he).1 hu, .inr ⟨ho, rfl, rfl, rfl, rfl⟩⟩, h2 ho, Own.nil _ _ _ _⟩
  · refine (sFind_bad W H a l.length c x y tx ty b he).mono ?_
    rintro e w' ⟨h1, hx⟩
    exact ⟨hx, [], 0, 0, _, _, .inl ⟨he, rfl, rfl, rfl, rfl⟩, h1, Own.nil _ _ _ _⟩
end Go.Proofs.Ytifbmapianddcaa

/- Rows that are read; flood.From. -/
namespace Go.Proofs.Ytifbmapianddcaa
open Go.RowKit
theorem reads_u64 {w : World} {v : Value} {l : List Int} (h : Reads u64E w v l) (h1 : 0 < l.length) : ∃ b off c, v = .slice (some ⟨b, off, none⟩) l.length c ∧ b < w.heap.size ∧ ∀ k (hk : k < l.length), w.cell? ⟨b, off + k, none⟩ = some (.int .u64 l[k]) := by
  rcases h with ⟨_, h⟩ | ⟨b, off, c, hv, hb, hc⟩
  · rw [h] at h1; simp at h1
  · refine ⟨b, off, c, hv, hb, fun k hk => ?_⟩
    have := hc k l[k] (List.getElem?_eq_getElem hk) 0 (.int .u64 l[k]) rfl
    simpa [u64E] using this
theorem reads_cell {w : World} {v : Value} {l : List Cell} (h : Reads cellE w v l) (h1 : 0 < l.length) : ∃ b off c, v = .slice (some ⟨b, off, none⟩) l.length c ∧ b < w.heap.size ∧ ∀ k p, l[k]? = some p → w.cell? ⟨b, off + k * 2, none⟩ = some (.int .i64 p.1) ∧ w.cell? ⟨b, off + k * 2 + 1, none⟩ = some (.int .i64 p.2) := by
  rcases h with ⟨_, h⟩ | ⟨b, off, c, hv, hb, hc⟩
  · rw [h] at h1; simp at h1
  · refine ⟨b, off, c, hv, hb, fun k p hk => ⟨?_, ?_⟩⟩
    · have := hc k p hk 0 (.int .i64 p.1) rfl
      simpa [cellE] using this
    · have := hc k p hk 1 (.int .i64 p.2) rfl
      rw [show off + k * 2 + 1 = off + (k * 2 + 1) by omega]
      simpa [cellE, Nat.add_assoc] using this

theorem fFrom_bad {w : World} (W H : Int) (a : Option Addr) (n c : Nat) (x y : Int) (he : lookE W H n 0 0 W H x y ≠ 0) :
    Calls Try.prog 17 #[.agg #[.int .i64 W, .int .i64 H, .slice a n c], .agg #[.int .i64 x, .int .i64 y]] w fun e w' => e = .returned (.tuple #[.slice none 0 0, .int .i64 (lookE W H n 0 0 W H x y)]) ∧ Ext w w' := by
  have HW := hide (fun (w' : World) => fWithin_bad (w := w') W H a n c 0 0 W H x y he)
  generalize lookE W H n 0 0 W H x y = le at *
  clear he
  go_enter Try.func17, Try.ntmps17
  go_wp2_with (go_at_call 64; refine (HW.out _).mono ?_; rintro e w1 ⟨rfl, hb1⟩)
  exact bodyPost_ret (v := .tuple #[.slice none 0 0, .int .i64 le]) (by simp [results, Try.results17, go_sem, *]) rfl ⟨rfl, (by (with_reducible (repeat' (first | exact Ext.refl _ | assumption | refine Ext.drew ?_ | refine Ext.drewN ?_ _ | refine Ext.alloc ?_ _ | refine Ext.setCell ?_ ?_ _ | refine Ext.trans ?_ (by assumption)))); all_goals (first | (simp; done) | (simp; omega)))⟩

theorem fFrom_ok {w : World} {W H : Int} {a : Option Addr} {l : List Int} {x y : Int} (c : Nat) (he : lookE W H l.length 0 0 W H x y = 0) (hr : Row16 w a l) (hu : U16s l) :
    Calls Try.prog 17 #[.agg #[.int .i64 W, .int .i64 H, .slice a l.length c], .agg #[.int .i64 x, .int .i64 y]] w fun e w' =>
      ∃ v far, e = .returned (.tuple #[v, .int .i64 0]) ∧ Ext w w' ∧ Own u64E w' w.heap.size 38 v (farL far l.length) ∧ IsFar (mapNet (landP_of he hu)) (idxN W (x, y)) far ∧ FarLow (mapNet (landP_of he hu)) far := by
  obtain ⟨G, hG⟩ : ∃ G, mapNet (landP_of he hu) = G := ⟨_, rfl⟩
  have HW := hide (fun (w' : World) (hx : Ext w w') => fWithin_ok c he (hr.ext hx) hu)
  rw [hG] at HW ⊢
  generalize idxN W (x, y) = s at *
  obtain ⟨n, hn⟩ : ∃ n, l.length = n := ⟨_, rfl⟩
  rw [hn] at HW ⊢
  clear hG hr hu hn he
  go_enter Try.func17, Try.ntmps17
  go_wp2_with fail
  refine (HW.out _ (by (with_reducible (repeat' (first | exact Ext.refl _ | assumption | refine Ext.drew ?_ | refine Ext.drewN ?_ _ | refine Ext.alloc ?_ _ | refine Ext.setCell ?_ ?_ _ | refine Ext.trans ?_ (by assumption)))); all_goals (first | (simp; done) | (simp; omega)))).mono ?_
  rintro e w2 ⟨v, far, rfl, hx2, hv, h1, h2⟩
  have hxx : Ext w w2 := (by (with_reducible (repeat' (first | exact Ext.refl _ | assumption | refine Ext.drew ?_ | refine Ext.drewN ?_ _ | refine Ext.alloc ?_ _ | refine Ext.setCell ?_ ?_ _ | refine Ext.trans ?_ (by assumption)))); all_goals (first | (simp; done) | (simp; omega)))
  have HV := hide (hv.lower (base' := w.heap.size) (by simp; omega))
  have H1 := hide h1
  have H2 := hide h2
  clear hv h1 h2
  go_wp2
  exact bodyPost_ret (v := .tuple #[v, .int .i64 0]) (by simp [results, Try.results17, go_sem, *]) rfl ⟨v, far, rfl, hxx, HV.out, H1.out, H2.out⟩

end Go.Proofs.Ytifbmapianddcaa

/- Walks of the reference's small functions of layer 10, and of what its laws share. -/
namespace Go.Proofs.Ytifbmapianddcaa
open Go.RowKit

theorem r10Abs_any (n : Int) (w : World) (h : -1000000 ≤ n ∧ n ≤ 1000000) : Calls Try.prog 71 #[.int .i64 n] w fun e w' => e = .returned (.int .i64 (absI n)) ∧ Ext w w' := by
  by_cases h0 : n < 0
  · have e0 : absI n = -n := if_pos h0
    have hb : decide (n < 0) = true := by simpa using h0
    have k : IntKind.i64.wrap (-n) = -n := IntWalk.i64_in _ (by omega)
    rw [e0]
    clear e0
    go_enter Try.func71, Try.ntmps71
    go_wp2
    go_ret
    exact ⟨rfl, (by (with_reducible (repeat' (first | exact Ext.refl _ | assumption | refine Ext.drew ?_ | refine Ext.drewN ?_ _ | refine Ext.alloc ?_ _ | refine Ext.setCell ?_ ?_ _ | refine Ext.trans ?_ (by assumption)))); all_goals (first | (simp; done) | (simp; omega)))⟩
  · have e0 : absI n = n := if_neg h0
    have hb : decide (n < 0) = false := by simpa using h0
    rw [e0]
    clear e0
    go_enter Try.func71, Try.ntmps71
    go_wp2
    go_ret
    exact ⟨rfl, (by (with_reducible (repeat' (first | exact Ext.refl _ | assumption | refine Ext.drew ?_ | refine Ext.drewN ?_ _ | refine Ext.alloc ?_ _ | refine Ext.setCell ?_ ?_ _ | refine Ext.trans ?_ (by assumption)))); all_goals (first | (simp; done) | (simp; omega)))⟩

theorem r10Guess_any (x y tx ty : Int) (w : World) (hx : 0 ≤ x ∧ x ≤ 1000) (hy : 0 ≤ y ∧ y ≤ 1000) (htx : 0 ≤ tx ∧ tx ≤ 1000) (hty : 0 ≤ ty ∧ ty ≤ 1000) :
    Calls Try.prog 20 #[.agg #[.int .i64 x, .int .i64 y], .agg #[.int .i64 tx, .int .i64 ty]] w fun e w' => e = .returned (.int .u64 (manh x y tx ty)) ∧ Ext w w' := by
  have H1 := hide (fun w' => r10Abs_any (x - tx) w' (by omega))
  have H2 := hide (fun w' => r10Abs_any (y - ty) w' (by omega))
  have b1 := absI_bd (n := x - tx) (by omega)
  have b2 := absI_bd (n := y - ty) (by omega)
  have k1 : IntKind.i64.wrap (x - tx) = x - tx := IntWalk.i64_in _ (by omega)
  have k2 : IntKind.i64.wrap (y - ty) = y - ty := IntWalk.i64_in _ (by omega)
  unfold manh
  generalize absI (x - tx) = p at *
  generalize absI (y - ty) = q at *
  have k3 : IntKind.i64.wrap (p + q) = p + q := IntWalk.i64_in _ (by omega)
  have k4 : IntKind.u64.wrap (p + q) = p + q := by rw [IntKind.wrap_u64]; omega
  go_enter Try.func20, Try.ntmps20
  go_wp2_with fail
  obtain ⟨w1, hw1⟩ : ∃ w1, w1 = (w.alloc (.cells #[.int .i64 x, .int .i64 y] 28)).alloc (.cells #[.int .i64 tx, .int .i64 ty] 28) := ⟨_, rfl⟩
  have hx1 : Ext w w1 := by rw [hw1]; exact (by (with_reducible (repeat' (first | exact Ext.refl _ | assumption | refine Ext.drew ?_ | refine Ext.drewN ?_ _ | refine Ext.alloc ?_ _ | refine Ext.setCell ?_ ?_ _ | refine Ext.trans ?_ (by assumption)))); all_goals (first | (simp; done) | (simp; omega)))
  have B1 := hide (show Blk w1 w.heap.size 28 #[.int .i64 x, .int .i64 y] by rw [hw1]; exact (Blk.new_ rfl).over)
  have B2 := hide (show Blk w1 (w.heap.size + 1) 28 #[.int .i64 tx, .int .i64 ty] by rw [hw1]; exact Blk.new_ (by simp))
  rw [← hw1]
  have b0 := B1.out.at 0 rfl; have b1 := B1.out.at 1 rfl; have bz := B1.out.lt
  have c0 := B2.out.at 0 rfl; have c1 := B2.out.at 1 rfl; have cz := B2.out.lt
  clear hw1
  refine seqH_start (S := (fun W => (∀ b o, b < w1.heap.size → W.cell? ⟨b, o, none⟩ = w1.cell? ⟨b, o, none⟩) ∧ Ext w1 W)) [(0, true), (1, true), (2, true), (3, true), (4, true), (6, true), (7, true), (8, true), (9, true), (10, true), (5, false), (11, false), (12, true), (13, true), (14, true)] (by kernel_rfl) (by kernel_rfl) (by kernel_rfl) (by decide) (fun _ _ d _ _ h => by cases d <;> exact h) (by first | with_reducible exact pr_start _ | exact pr_of (by (with_reducible (repeat' (first | exact Ext.refl _ | assumption | refine Ext.drew ?_ | refine Ext.drewN ?_ _ | refine Ext.alloc ?_ _ | refine Ext.setCell ?_ ?_ _ | refine Ext.trans ?_ (by assumption)))); all_goals (first | (simp; done) | (simp; omega)))) (fun hHeld => ?_)
  iterate 10 (apply SeqH.free; (· (simp only [List.getElem?_toArray, List.getElem?_cons_succ, List.getElem?_cons_zero]; rfl)); (· first | exact Or.inr ⟨by rfl, rfl⟩ | (refine Or.inl ⟨by rfl, ?_⟩; intro w hSw; (try dsimp only at hSw); go_simp; try with_reducible rfl)); try simp only [Act.put, List.setIfInBounds_toArray, List.set_cons_zero, List.set_cons_succ])
  (apply SeqH.step; (· (simp only [List.getElem?_toArray, List.getElem?_cons_succ, List.getElem?_cons_zero]; rfl)); intro K hK; go_simp; refine (H1.out _).mono ?_; rintro e w2 ⟨rfl, hb2⟩; go_wp2_with fail; refine hK.out _ _ (pr_of (by (with_reducible (repeat' (first | exact Ext.refl _ | assumption | refine Ext.drew ?_ | refine Ext.drewN ?_ _ | refine Ext.alloc ?_ _ | refine Ext.setCell ?_ ?_ _ | refine Ext.trans ?_ (by assumption)))); all_goals (first | (simp; done) | (simp; omega)))) (fun hHeld => ?_); clear hK K; try simp only [Act.put, List.setIfInBounds_toArray, List.set_cons_zero, List.set_cons_succ])
  (apply SeqH.step; (· (simp only [List.getElem?_toArray, List.getElem?_cons_succ, List.getElem?_cons_zero]; rfl)); intro K hK; go_simp; refine (H2.out _).mono ?_; rintro e w3 ⟨rfl, hb3⟩; go_wp2_with fail; refine hK.out _ _ (pr_of (by (with_reducible (repeat' (first | exact Ext.refl _ | assumption | refine Ext.drew ?_ | refine Ext.drewN ?_ _ | refine Ext.alloc ?_ _ | refine Ext.setCell ?_ ?_ _ | refine Ext.trans ?_ (by assumption)))); all_goals (first | (simp; done) | (simp; omega)))) (fun hHeld => ?_); clear hK K; try simp only [Act.put, List.setIfInBounds_toArray, List.set_cons_zero, List.set_cons_succ])
  iterate 3 (apply SeqH.free; (· (simp only [List.getElem?_toArray, List.getElem?_cons_succ, List.getElem?_cons_zero]; rfl)); (· first | exact Or.inr ⟨by rfl, rfl⟩ | (refine Or.inl ⟨by rfl, ?_⟩; intro w hSw; (try dsimp only at hSw); go_simp; try with_reducible rfl)); try simp only [Act.put, List.setIfInBounds_toArray, List.set_cons_zero, List.set_cons_succ])
  refine SeqH.done ?_
  have hx2 := hx1.trans hHeld.2
  go_wp2_with fail
  go_ret
  exact ⟨rfl, hx2.trans (by (with_reducible (repeat' (first | exact Ext.refl _ | assumption | refine Ext.drew ?_ | refine Ext.drewN ?_ _ | refine Ext.alloc ?_ _ | refine Ext.setCell ?_ ?_ _ | refine Ext.trans ?_ (by assumption)))); all_goals (first | (simp; done) | (simp; omega)))⟩

theorem r10In_any (W H x y : Int) (w : World) (hm : mayB W H = true) :
    Calls Try.prog 19 #[.agg #[.int .i64 W, .int .i64 H], .agg #[.int .i64 x, .int .i64 y]] w fun e w' => e = .returned (.bool (inB W H x y)) ∧ Ext w w' := by
  rw [inB_has hm]
  have e0 : hasB 0 0 W H x y = (decide (0 ≤ x) && decide (0 ≤ y) && decide (x < W) && decide (y < H)) := by
    rw [Bool.eq_iff_iff, hasB_true]
    simp
    omega
  rw [e0]
  clear hm e0
  go_enter Try.func19, Try.ntmps19
  go_wp2
  all_goals go_ret
  all_goals exact ⟨by simp <;> omega, (by (with_reducible (repeat' (first | exact Ext.refl _ | assumption | refine Ext.drew ?_ | refine Ext.drewN ?_ _ | refine Ext.alloc ?_ _ | refine Ext.setCell ?_ ?_ _ | refine Ext.trans ?_ (by assumption)))); all_goals (first | (simp; done) | (simp; omega)))⟩

theorem small10_any (W H : Int) (a : Option Addr) (n c : Nat) (w : World) : Calls Try.prog 15 #[.agg #[.int .i64 W, .int .i64 H, .slice a n c]] w fun e w' => e = .returned (.bool (decide ((n : Int) ≤ 150))) ∧ Ext w w' := by
  go_enter Try.func15, Try.ntmps15
  go_wp2
  go_ret
  exact ⟨rfl, (by (with_reducible (repeat' (first | exact Ext.refl _ | assumption | refine Ext.drew ?_ | refine Ext.drewN ?_ _ | refine Ext.alloc ?_ _ | refine Ext.setCell ?_ ?_ _ | refine Ext.trans ?_ (by assumption)))); all_goals (first | (simp; done) | (simp; omega)))⟩

set_option maxHeartbeats 400000 in
theorem cells10_some {w : World} {va vb : Value} {l : List Cell} (hl : l.length ≤ 1000000) (h0 : 0 < l.length) (ha : Reads cellE w va l) (hb : Reads cellE w vb l) :
    Calls Try.prog 63 #[va, vb] w fun e w' => e = .returned (.bool true) ∧ Ext w w' := by
  obtain ⟨b, off, c, rfl, hb1, h1⟩ := reads_cell ha h0
  obtain ⟨b', off', c', rfl, hb2, h2⟩ := reads_cell hb h0
  have H1 := hide h1
  have H2 := hide h2
  clear h1 h2 ha hb
  go_enter Try.func63, Try.ntmps63
  go_wp2
  go_loopw [5] (fun i wr => ∃ k : Nat, k ≤ l.length ∧ i = .int .i64 k ∧ Ext w wr) (fun i _ => l.length - (intOf i).toNat)
  case atStart => exact ⟨0, Nat.zero_le _, rfl, (by (with_reducible (repeat' (first | exact Ext.refl _ | assumption | refine Ext.drew ?_ | refine Ext.drewN ?_ _ | refine Ext.alloc ?_ _ | refine Ext.setCell ?_ ?_ _ | refine Ext.trans ?_ (by assumption)))); all_goals (first | (simp; done) | (simp; omega)))⟩
  case round =>
    obtain ⟨k, hk, rfl, hext⟩ := hrel
    by_cases hlt : k < l.length
    · obtain ⟨p, hp⟩ : ∃ p, l[k]? = some p := ⟨_, List.getElem?_eq_getElem hlt⟩
      have d1 := (hext.cell (p := ⟨b, off + k * 2, none⟩) hb1).trans (H1.out k p hp).1
      have d2 := (hext.cell (p := ⟨b, off + k * 2 + 1, none⟩) hb1).trans (H1.out k p hp).2
      have d3 := (hext.cell (p := ⟨b', off' + k * 2, none⟩) hb2).trans (H2.out k p hp).1
      have d4 := (hext.cell (p := ⟨b', off' + k * 2 + 1, none⟩) hb2).trans (H2.out k p hp).2
      have hq1 : ∀ w, (Op.equalIn 10000 28 (.agg #[.int .i64 p.1, .int .i64 p.2]) (.agg #[.int .i64 p.1, .int .i64 p.2])).run Try.prog w = .ok true w := fun w => by rw [eq_cell p p w]; simp [cellB]
      clear hp
      go_wp2
      go_quiet (fail)
      go_wp2
      go_roundw
      case rel => exact ⟨k + 1, by omega, by go_num, (by (with_reducible (repeat' (first | exact Ext.refl _ | assumption | refine Ext.drew ?_ | refine Ext.drewN ?_ _ | refine Ext.alloc ?_ _ | refine Ext.setCell ?_ ?_ _ | refine Ext.trans ?_ (by assumption)))); all_goals (first | (simp; done) | (simp; omega)))⟩
      case measure => simp [intOf]; omega
    · go_wp2
      go_ret
      exact ⟨rfl, (by (with_reducible (repeat' (first | exact Ext.refl _ | assumption | refine Ext.drew ?_ | refine Ext.drewN ?_ _ | refine Ext.alloc ?_ _ | refine Ext.setCell ?_ ?_ _ | refine Ext.trans ?_ (by assumption)))); all_goals (first | (simp; done) | (simp; omega)))⟩
theorem cells10_none (a b : Option Addr) (c d : Nat) (w : World) : Calls Try.prog 63 #[.slice a 0 c, .slice b 0 d] w fun e w' => e = .returned (.bool true) ∧ Ext w w' := by
  go_enter Try.func63, Try.ntmps63
  go_wp2
  go_loopw [5] (fun i wr => i = .int .i64 0 ∧ Ext w wr) (fun i _ => 0)
  case atStart => exact ⟨rfl, (by (with_reducible (repeat' (first | exact Ext.refl _ | assumption | refine Ext.drew ?_ | refine Ext.drewN ?_ _ | refine Ext.alloc ?_ _ | refine Ext.setCell ?_ ?_ _ | refine Ext.trans ?_ (by assumption)))); all_goals (first | (simp; done) | (simp; omega)))⟩
  case round =>
    obtain ⟨rfl, hext⟩ := hrel
    go_wp2
    go_ret
    exact ⟨rfl, (by (with_reducible (repeat' (first | exact Ext.refl _ | assumption | refine Ext.drew ?_ | refine Ext.drewN ?_ _ | refine Ext.alloc ?_ _ | refine Ext.setCell ?_ ?_ _ | refine Ext.trans ?_ (by assumption)))); all_goals (first | (simp; done) | (simp; omega)))⟩
theorem cells10_any {w : World} {va vb : Value} {l : List Cell} (hl : l.length ≤ 1000000) (ha : Reads cellE w va l) (hb : Reads cellE w vb l) :
    Calls Try.prog 63 #[va, vb] w fun e w' => e = .returned (.bool true) ∧ Ext w w' := by
  by_cases h0 : 0 < l.length
  · exact cells10_some hl h0 ha hb
  · obtain ⟨a, c, rfl⟩ := ha.slice
    obtain ⟨b, d, rfl⟩ := hb.slice
    rw [show l.length = 0 by omega]
    exact cells10_none a b c d w

end Go.Proofs.Ytifbmapianddcaa

/- The example of chapter 10. -/
namespace Go.Proofs.Ytifbmapianddcaa
open Go.RowKit

def awA : List Int := [1, 1, 1, 1, 1, 1, 1, 1, 1]
def awB : List Int := [1, 0, 1, 1, 1, 1, 1, 1, 1]
theorem awA_land : LandP 3 3 awA 0 0 3 3 := ⟨by decide, by decide, (by intro x hx; simp [awA] at hx; omega), by decide⟩
theorem awB_land : LandP 3 3 awB 0 0 3 3 := ⟨by decide, by decide, (by intro x hx; simp [awB] at hx; omega), by decide⟩
theorem aw_lt10 (s : Nat) (hs : s < 9) : ∀ u, (start0 s).st u = 1 → u < 9 := fun u hu => by
  have : updN (fun _ => 0) s 1 u = 1 := hu
  unfold updN at this
  split at this
  · omega
  · cases this
theorem aw_adjA : ∀ v m, m ∈ (mapNet awA_land).adj v → m < (mapNet awA_land).n := fun _ m h => (mapNet awA_land).lt m (adj_op awA_land h)
theorem aw_adjB : ∀ v m, m ∈ (mapNet awB_land).adj v → m < (mapNet awB_land).n := fun _ m h => (mapNet awB_land).lt m (adj_op awB_land h)
theorem aw_runA : ARun (mapNet awA_land) 3 (hT 3 2) 2 9 (start0 0) [0, 1, 2] 2 3 0 := runF_ok (k := 20) aw_adjA (aw_lt10 0 (by omega)) (by decide +kernel)
theorem aw_runA2 : ARun (mapNet awA_land) 3 (hT 3 2) 2 2 (start0 0) [] 0 2 23 := runF_ok (k := 20) aw_adjA (aw_lt10 0 (by omega)) (by decide +kernel)
theorem aw_runB : ARun (mapNet awB_land) 3 (hT 3 2) 2 9 (start0 0) [0, 3, 4, 5, 2] 4 5 0 := runF_ok (k := 20) aw_adjB (aw_lt10 0 (by omega)) (by decide +kernel)
theorem aw_srA : Srch 3 3 awA 0 0 2 0 9 [0, 1, 2] 2 3 0 := .inr ⟨by decide, awA_land, .inl ⟨by decide +kernel, by decide +kernel, aw_runA⟩⟩
theorem aw_srA2 : Srch 3 3 awA 0 0 2 0 2 [] 0 2 23 := .inr ⟨by decide, awA_land, .inl ⟨by decide +kernel, by decide +kernel, aw_runA2⟩⟩
theorem aw_srB : Srch 3 3 awB 0 0 2 0 9 [0, 3, 4, 5, 2] 4 5 0 := .inr ⟨by decide, awB_land, .inl ⟨by decide +kernel, by decide +kernel, aw_runB⟩⟩
theorem row9 {w : World} {b : Nat} {a0 a1 a2 a3 a4 a5 a6 a7 a8 : Int} (h : Blk w b 46 #[.int .u16 a0, .int .u16 a1, .int .u16 a2, .int .u16 a3, .int .u16 a4, .int .u16 a5, .int .u16 a6, .int .u16 a7, .int .u16 a8]) : Row16 w (some ⟨b, 0, none⟩) [a0, a1, a2, a3, a4, a5, a6, a7, a8] := fun _ => by
  refine ⟨b, 0, rfl, h.lt, fun k hk => ?_⟩
  have hk6 : k < 9 := hk
  obtain rfl | rfl | rfl | rfl | rfl | rfl | rfl | rfl | rfl : k = 0 ∨ k = 1 ∨ k = 2 ∨ k = 3 ∨ k = 4 ∨ k = 5 ∨ k = 6 ∨ k = 7 ∨ k = 8 := by omega
  · exact h.at 0 rfl
  · exact h.at 1 rfl
  · exact h.at 2 rfl
  · exact h.at 3 rfl
  · exact h.at 4 rfl
  · exact h.at 5 rfl
  · exact h.at 6 rfl
  · exact h.at 7 rfl
  · exact h.at 8 rfl

set_option maxRecDepth 100000 in
set_option maxHeartbeats 1000000 in
theorem awake10_any (w : World) : Calls Try.prog 16 #[] w fun e w' => e = .returned (.bool true) ∧ Ext w w' := by
  have HA := hide (fun (w' : World) (a : Option Addr) (b : Int) (hr : Row16 w' a awA) => sFind_uni (w := w') 3 3 a (l := awA) 9 0 0 2 0 b hr awA_land.u16)
  have HB := hide (fun (w' : World) (a : Option Addr) (b : Int) (hr : Row16 w' a awB) => sFind_uni (w := w') 3 3 a (l := awB) 9 0 0 2 0 b hr awB_land.u16)
  go_enter Try.func16, Try.ntmps16
  go_wp2_with fail
  obtain ⟨w0, hw0⟩ : ∃ w0, w0 = (w.alloc (.cells #[.int .u16 1, .int .u16 1, .int .u16 1, .int .u16 1, .int .u16 1, .int .u16 1, .int .u16 1, .int .u16 1, .int .u16 1] 46)).alloc (.cells #[.int .i64 3, .int .i64 3, .slice (some ⟨w.heap.size, 0, none⟩) 9 9] 26) := ⟨_, rfl⟩
  have hx0 : Ext w w0 := by rw [hw0]; exact (by (with_reducible (repeat' (first | exact Ext.refl _ | assumption | refine Ext.drew ?_ | refine Ext.drewN ?_ _ | refine Ext.alloc ?_ _ | refine Ext.setCell ?_ ?_ _ | refine Ext.trans ?_ (by assumption)))); all_goals (first | (simp; done) | (simp; omega)))
  have R0 := hide (show Blk w0 w.heap.size 46 #[.int .u16 1, .int .u16 1, .int .u16 1, .int .u16 1, .int .u16 1, .int .u16 1, .int .u16 1, .int .u16 1, .int .u16 1] by rw [hw0]; exact (Blk.new_ rfl).over)
  have F0 := hide (show Blk w0 (w.heap.size + 1) 26 #[.int .i64 3, .int .i64 3, .slice (some ⟨w.heap.size, 0, none⟩) 9 9] by rw [hw0]; exact Blk.new_ (by simp))
  rw [← hw0]
  clear hw0
  refine (HA.out w0 _ _ (row9 R0.out)).mono ?_
  rintro e w1 ⟨hx1, p1, c1, k1, e1, v1, hs1, rfl, ho1⟩
  obtain ⟨rfl, rfl, rfl, rfl⟩ := hs1.one aw_srA
  obtain ⟨a1, q1, hv1⟩ : ∃ a q, v1 = .slice a 3 q := ho1.slice
  subst hv1
  have R1 := hide (Blk.ext R0.out hx1)
  have F1 := hide (Blk.ext F0.out hx1)
  have HX1 := hide (hx0.trans hx1)
  have j0 := F1.out.at 0 rfl; have j1 := F1.out.at 1 rfl; have j2 := F1.out.at 2 rfl; have jz := F1.out.lt
  clear hs1 ho1 R0 F0 hx0 hx1
  go_wp2_with fail
  obtain ⟨w2, hw2⟩ : ∃ w2, w2 = w1.alloc (.cells #[.slice a1 3 q1, .int .u64 2, .int .i64 3] 40) := ⟨_, rfl⟩
  have hx2 : Ext w1 w2 := by rw [hw2]; exact (by (with_reducible (repeat' (first | exact Ext.refl _ | assumption | refine Ext.drew ?_ | refine Ext.drewN ?_ _ | refine Ext.alloc ?_ _ | refine Ext.setCell ?_ ?_ _ | refine Ext.trans ?_ (by assumption)))); all_goals (first | (simp; done) | (simp; omega)))
  have A2 := hide (show Blk w2 w1.heap.size 40 #[.slice a1 3 q1, .int .u64 2, .int .i64 3] by rw [hw2]; exact Blk.new_ rfl)
  rw [← hw2]
  clear hw2 j0 j1 j2 jz
  refine (HA.out w2 _ _ (row9 (Blk.ext R1.out hx2))).mono ?_
  rintro e w3 ⟨hx3, p2, c2, k2, e2, v2, hs2, rfl, ho2⟩
  obtain ⟨rfl, rfl, rfl, rfl⟩ := hs2.one aw_srA2
  obtain ⟨a2, q2, hv2⟩ : ∃ a q, v2 = .slice a 0 q := ho2.slice
  subst hv2
  have R3 := hide (Blk.ext R1.out (hx2.trans hx3))
  have F3 := hide (Blk.ext F1.out (hx2.trans hx3))
  have A3 := hide (Blk.ext A2.out hx3)
  have hz0 : w.heap.size + 1 < w1.heap.size := F1.out.lt
  have HX3 := hide (HX1.out.trans (hx2.trans hx3))
  have j0 := F3.out.at 0 rfl; have j1 := F3.out.at 1 rfl; have j2 := F3.out.at 2 rfl; have jz := F3.out.lt
  have r0 := R3.out.at 0 rfl; have r1 := R3.out.at 1 rfl; have r2 := R3.out.at 2 rfl; have r3 := R3.out.at 3 rfl; have r4 := R3.out.at 4 rfl; have r5 := R3.out.at 5 rfl; have r6 := R3.out.at 6 rfl; have r7 := R3.out.at 7 rfl; have r8 := R3.out.at 8 rfl; have rz := R3.out.lt
  have rf := R3.out.frozen 1
  clear hs2 ho2 R1 F1 A2 hx2 hx3 HX1
  go_wp2_with fail
  obtain ⟨w4, hw4⟩ : ∃ w4, w4 = (w3.setCell ⟨w.heap.size, 1, none⟩ (.int .u16 0)).alloc (.cells #[.slice a2 0 q2, .int .u64 0, .int .i64 2] 40) := ⟨_, rfl⟩
  have t4 : Touch (fun k => k = w.heap.size) w3 w4 := by rw [hw4]; exact (Touch.setCell (S := fun k => k = w.heap.size) (p := ⟨w.heap.size, 1, none⟩) (Touch.refl _ w3) (.inl rfl) _).alloc _
  have R4 := hide (show Blk w4 w.heap.size 46 #[.int .u16 1, .int .u16 0, .int .u16 1, .int .u16 1, .int .u16 1, .int .u16 1, .int .u16 1, .int .u16 1, .int .u16 1] by rw [hw4]; exact Blk.over (Blk.set_ R3.out 1 _))
  have hz1 := HX3.out.size
  have hz2 := A3.out.lt
  have F4 := hide (F3.out.touch t4 (by omega))
  have A4 := hide (A3.out.touch t4 (by omega))
  have C4 := hide (show Blk w4 w3.heap.size 40 #[.slice a2 0 q2, .int .u64 0, .int .i64 2] by rw [hw4]; exact Blk.new_ (by simp))
  have hx4 : Ext w w4 := by rw [hw4]; exact (HX3.out.setCell (p := ⟨w.heap.size, 1, none⟩) (Nat.le_refl _) _).alloc _
  have HX4 := hide hx4
  rw [← hw4]
  clear hw4 t4 j0 j1 j2 jz r0 r1 r2 r3 r4 r5 r6 r7 r8 rz rf HX3 hx4 R3 F3 A3
  refine (HB.out w4 _ _ (row9 R4.out)).mono ?_
  rintro e w5 ⟨hx5, p3, c3, k3, e3, v3, hs3, rfl, ho3⟩
  obtain ⟨rfl, rfl, rfl, rfl⟩ := hs3.one aw_srB
  obtain ⟨a3, q3, hv3⟩ : ∃ a q, v3 = .slice a 5 q := ho3.slice
  subst hv3
  have A5 := hide (Blk.ext A4.out hx5)
  have C5 := hide (Blk.ext C4.out hx5)
  have HX5 := hide (HX4.out.trans hx5)
  have hmap : [0, 3, 4, 5, 2].map (cellV 3) = [(0, 0), (0, 1), (1, 1), (2, 1), (2, 0)] := by decide
  have hrd := ho3.reads
  rw [hmap] at hrd
  have O5 := hide hrd
  have u0 := A5.out.at 0 rfl; have u1 := A5.out.at 1 rfl; have u2 := A5.out.at 2 rfl; have uz := A5.out.lt
  have s0 := C5.out.at 0 rfl; have s1 := C5.out.at 1 rfl; have s2 := C5.out.at 2 rfl; have sz := C5.out.lt
  clear hs3 ho3 hmap hrd R4 F4 A4 C4 hx5 HX4
  go_wp2_with fail
  refine (cells10_any (l := [(0, 0), (0, 1), (1, 1), (2, 1), (2, 0)]) (by decide) ?_ ?_).mono ?_
  · exact O5.out.ext (by (with_reducible (repeat' (first | exact Ext.refl _ | assumption | refine Ext.drew ?_ | refine Ext.drewN ?_ _ | refine Ext.alloc ?_ _ | refine Ext.setCell ?_ ?_ _ | refine Ext.trans ?_ (by assumption)))); all_goals (first | (simp; done) | (simp; omega)))
  · exact reads_lit cellE _ _ _ _ rfl _ _ _ (by simp) rfl
  rintro e w6 ⟨rfl, hx6⟩
  have hx56 : Ext w5 w6 := (by (with_reducible (repeat' (first | exact Ext.refl _ | assumption | refine Ext.drew ?_ | refine Ext.drewN ?_ _ | refine Ext.alloc ?_ _ | refine Ext.setCell ?_ ?_ _ | refine Ext.trans ?_ (by assumption)))); all_goals (first | (simp; done) | (simp; omega)))
  clear hx6
  go_wp2
  go_ret
  exact ⟨rfl, HX5.out.trans hx56⟩

end Go.Proofs.Ytifbmapianddcaa

/- How many cells a search settles, and its path in plain words. -/
namespace Go.Proofs.Ytifbmapianddcaa

theorem count_le {α : Type} {p q : α → Bool} : ∀ {l : List α}, (∀ a ∈ l, p a = true → q a = true) → l.countP p ≤ l.countP q
  | [], _ => Nat.le_refl _
  | a :: l, h => by
    rw [List.countP_cons, List.countP_cons]
    have h1 := count_le (l := l) (p := p) (q := q) (fun b hb => h b (List.mem_cons_of_mem _ hb))
    by_cases hp : p a = true
    · rw [if_pos hp, if_pos (h a List.mem_cons_self hp)]; omega
    · rw [if_neg hp]; omega
theorem count_same {α : Type} {p q : α → Bool} {l : List α} (h : ∀ a ∈ l, p a = q a) : l.countP p = l.countP q :=
  Nat.le_antisymm (count_le fun a ha hp => by rw [← h a ha]; exact hp) (count_le fun a ha hp => by rw [h a ha]; exact hp)

section
variable {G : Net} {D : Nat → Int} {s : Nat} {A : AS}
theorem SInv.set_lt (I : SInv G D s A (fun _ _ => False)) (hn : G.n ≤ 1000000) {v : Nat} (h : A.st v = 2) : D v < infI := by
  have h1 := I.bd v (by omega)
  have h2 := I.opt v h
  have h3 := I.few
  have : infI = 18446744073709551615 := rfl
  omega
end

/-- What is settled, once the end is found. -/
theorem run_settles {G : Net} {W : Int} {h : Nat → Int} {t s : Nat} {b : Int} {A : AS} {D : Nat → Int} {p : List Nat} {c k e : Int} (r : ARun G W h t b A p c k e) (I : SInv G D s A (fun _ _ => False)) (F : IsFar G s D) (hn : G.n ≤ 1000000) (hg : Guess G h) (hadj : ∀ v m, m ∈ G.adj v → G.op m = true) (ht : A.st t ≠ 2) (h0 : h t = 0) (hD : D t < infI)
    (hS : ∀ v, A.st v = 2 → D v + h v ≤ D t) (he : e = 0) :
    (((List.range G.n).countP (fun v => decide (D v < infI ∧ D v + h v < D t)) : Nat) : Int) ≤ k ∧ k ≤ (((List.range G.n).countP (fun v => decide (D v < infI ∧ D v + h v ≤ D t)) : Nat) : Int) := by
  induction r with
  | none _ => cases he
  | full _ _ _ => cases he
  | found hB hb hc =>
    rename_i A l
    have hcnt := I.cnt
    have hgt := sinv_best I F hn hg hB
    have htn := G.lt t (I.op t (by have := hB.1; omega))
    constructor
    · have h1 := count_le (l := List.range G.n) (p := fun v => decide (D v < infI ∧ D v + h v < D t)) (q := fun v => decide (A.st v = 2)) (fun v _ hv => by
        simp only [decide_eq_true_eq] at hv ⊢
        apply Classical.byContradiction
        intro hne
        obtain ⟨x, x1, x2, x3⟩ := sinv_wit I F hg (D v).toNat v (by have := F.nn v; omega) hv.1 hne
        have := best_le hB x1
        omega)
      omega
    · have h1 := count_lt2 (l := List.range G.n) (p := fun v => decide (A.st v = 2)) (q := fun v => decide (D v < infI ∧ D v + h v ≤ D t)) (fun v _ hv => by
        simp only [decide_eq_true_eq] at hv ⊢
        exact ⟨I.set_lt hn hv, hS v hv⟩) ⟨t, List.mem_range.2 htn, by simp only [decide_eq_true_eq]; omega, by simp only [decide_eq_false_iff_not]; exact ht⟩
      omega
  | next hB hb hv r ih =>
    rename_i A v p c k e
    refine ih (sinv_step I F hn hg hadj hB) (fun h2 => ?_) (fun u hu => ?_) he
    · rcases (stepA_st G A v t).2.1 h2 with k | k
      · exact hv k.symm
      · exact ht k
    · rcases (stepA_st G A v u).2.1 hu with k | k
      · subst k
        obtain ⟨x, x1, x2, x3⟩ := sinv_wit I F hg (D t).toNat t (by have := F.nn t; omega) hD ht
        have := best_le hB x1
        have := (sinv_best I F hn hg hB).1
        omega
      · exact hS u k

/-- What is settled, if there is no way. -/
theorem run_all {G : Net} {W : Int} {h : Nat → Int} {t s : Nat} {b : Int} {A : AS} {D : Nat → Int} {p : List Nat} {c k e : Int} (r : ARun G W h t b A p c k e) (I : SInv G D s A (fun _ _ => False)) (F : IsFar G s D) (hn : G.n ≤ 1000000) (hg : Guess G h) (hadj : ∀ v m, m ∈ G.adj v → G.op m = true) (he : e = 22) :
    k = (((List.range G.n).countP (fun v => decide (D v < infI)) : Nat) : Int) := by
  induction r with
  | none h0 =>
    have hcnt := I.cnt
    rw [← hcnt]
    congr 1
    exact count_same fun v _ => by
      rw [Bool.eq_iff_iff]
      simp only [decide_eq_true_eq]
      exact ⟨fun h => I.set_lt hn h, fun h => sinv_end I F h0 h⟩
  | full _ _ _ => cases he
  | found _ _ _ => cases he
  | next hB hb hv r ih => exact ih (sinv_step I F hn hg hadj hB) he

/-- A path in a net: from cell to cell beside. -/
inductive PathN (G : Net) : List Nat → Prop where
  | one {v : Nat} : G.op v = true → PathN G [v]
  | more {u v : Nat} {l : List Nat} : G.op u = true → v ∈ G.adj u → PathN G (v :: l) → PathN G (u :: v :: l)
def costN (G : Net) (l : List Nat) : Int := (l.tail.map G.cost).sum

theorem PathN.snoc {G : Net} {l : List Nat} {u v : Nat} (h : PathN G (l ++ [u])) (hv : G.op v = true) (ha : v ∈ G.adj u) : PathN G (l ++ [u] ++ [v]) := by
  induction l with
  | nil =>
    cases h with
    | one ho => exact .more ho ha (.one hv)
  | cons a l ih =>
    cases l with
    | nil =>
      cases h with
      | more ho hb h => exact .more ho hb (ih h)
    | cons b l =>
      cases h with
      | more ho hb h => exact .more ho hb (ih h)
theorem sum_snoc (l : List Int) (x : Int) : (l ++ [x]).sum = l.sum + x := by
  induction l with
  | nil => simp
  | cons a l ih => simp only [List.cons_append, List.sum_cons, ih]; omega

/-- What a path is that was found. -/
structure Told (G : Net) (s t : Nat) (p : List Nat) (c k : Int) : Prop where
  path : PathN G p
  head : p.head? = some s
  last : p.getLast? = some t
  cost : c = costN G p
  few : (p.length : Int) ≤ k

section
variable {G : Net} {D : Nat → Int} {s : Nat} {A : AS}
theorem chain_told (I : SInv G D s A (fun _ _ => False)) {v : Nat} {l : List Nat} (hc : Chain A.came v l) : A.st v ≠ 0 → PathN G l.reverse ∧ l.reverse.head? = some s ∧ l.reverse.getLast? = some v ∧ A.g v = costN G l.reverse := by
  induction hc with
  | stop h0 =>
    rename_i v
    intro hv
    have e : v = s := by
      apply Classical.byContradiction
      intro e
      obtain ⟨u, hu, _⟩ := I.back v hv e
      omega
    subst e
    exact ⟨.one (I.op v hv), rfl, rfl, by rw [I.sg]; rfl⟩
  | go h0 hcc ih =>
    rename_i v u l
    intro hv
    have e : v ≠ s := fun e => by subst e; have := I.sc; omega
    obtain ⟨u', hu, k1, k2, k3⟩ := I.back v hv e
    have : u' = u := by omega
    subst this
    obtain ⟨i1, i2, i3, i4⟩ := ih (by omega)
    obtain ⟨l', hl'⟩ : ∃ l', l.reverse = l' ++ [u'] := by
      cases hcc with
      | stop _ => exact ⟨[], rfl⟩
      | go _ _ => exact ⟨_, List.reverse_cons ..⟩
    have hne : l.reverse ≠ [] := by rw [hl']; simp
    rw [List.reverse_cons]
    refine ⟨?_, ?_, ?_, ?_⟩
    · rw [hl'] at i1 ⊢; exact i1.snoc (I.op v hv) k2
    · cases hr : l.reverse with
      | nil => exact absurd hr hne
      | cons a r => rw [hr] at i2; exact i2
    · simp
    · unfold costN at i4 ⊢
      rw [k3, i4]
      cases hr : l.reverse with
      | nil => exact absurd hr hne
      | cons a r =>
        simp only [List.cons_append, List.tail_cons, List.map_append, List.map_cons, List.map_nil]
        rw [sum_snoc]
end

theorem run_told {G : Net} {W : Int} {h : Nat → Int} {t s : Nat} {b : Int} {A : AS} {D : Nat → Int} {p : List Nat} {c k e : Int} (r : ARun G W h t b A p c k e) (I : SInv G D s A (fun _ _ => False)) (F : IsFar G s D) (hn : G.n ≤ 1000000) (hg : Guess G h) (hadj : ∀ v m, m ∈ G.adj v → G.op m = true) (ht : A.st t ≠ 2) (he : e = 0) : Told G s t p c k := by
  induction r with
  | none _ => cases he
  | full _ _ _ => cases he
  | found hB hb hc =>
    rename_i A l
    have hst := hB.1
    obtain ⟨a1, a2, a3, a4⟩ := chain_told I hc (by omega)
    refine ⟨a1, a2, a3, a4, ?_⟩
    have hbest := sinv_best I F hn hg hB
    have h0 := F.nn t
    obtain ⟨l2, c1, c2, c3⟩ := chain_ex I (A.g t).toNat t (by omega) (by omega)
    have := hc.one c1
    subst this
    -- all but the end are settled
    have hset : ∀ u, u ∈ l → u ≠ t → A.st u = 2 := by
      clear c1 c2 c3 a1 a2 a3 a4 hbest h0
      have hgen : ∀ (v : Nat) (l : List Nat), Chain A.came v l → A.st v ≠ 0 → ∀ u, u ∈ l → u ≠ v → A.st u = 2 := by
        intro v l hcc
        induction hcc with
        | stop _ => intro _ u hu hne; rcases List.mem_cons.1 hu with h | h; exact absurd h hne; cases h
        | go h0 hcc ih =>
          rename_i v u l
          intro hv x hx hne
          have e : v ≠ s := fun e => by subst e; have := I.sc; omega
          obtain ⟨u', hu, k1, k2, k3⟩ := I.back v hv e
          have : u' = u := by omega
          subst this
          rcases List.mem_cons.1 hx with h | h
          · exact absurd h hne
          · by_cases hxu : x = u'
            · rw [hxu]; exact k1
            · exact ih (by omega) x h hxu
      exact hgen t l hc (by omega)
    have hcnt := I.cnt
    rw [List.length_reverse]
    have hlen : l.length ≤ (List.range G.n).countP (fun v => decide (A.st v = 2 ∨ v = t)) := by
      have h1 : ∀ u, u ∈ l → u ∈ (List.range G.n).filter (fun v => decide (A.st v = 2 ∨ v = t)) := fun u hu => by
        rw [List.mem_filter]
        refine ⟨List.mem_range.2 (G.lt u (I.op u (c2 u hu).1)), ?_⟩
        simp only [decide_eq_true_eq]
        by_cases e : u = t
        · exact .inr e
        · exact .inl (hset u hu e)
      have h2 := List.Nodup.length_le_of_subset c3 h1
      rw [List.countP_eq_length_filter]
      exact h2
    have hone : (List.range G.n).countP (fun v => decide (A.st v = 2 ∨ v = t)) ≤ (List.range G.n).countP (fun v => decide (A.st v = 2)) + 1 := by
      have : ∀ n, (List.range n).countP (fun v => decide (A.st v = 2 ∨ v = t)) ≤ (List.range n).countP (fun v => decide (A.st v = 2)) + (if t < n then 1 else 0) := by
        intro n
        induction n with
        | zero => simp
        | succ n ih =>
          rw [List.range_succ, List.countP_append, List.countP_append]
          have e1 : List.countP (fun v => decide (A.st v = 2 ∨ v = t)) [n] = if A.st n = 2 ∨ n = t then 1 else 0 := by rw [List.countP_cons]; simp
          have e2 : List.countP (fun v => decide (A.st v = 2)) [n] = if A.st n = 2 then 1 else 0 := by rw [List.countP_cons]; simp
          rw [e1, e2]
          by_cases h1 : n = t
          · subst h1
            simp only [Nat.lt_irrefl, if_false] at ih
            rw [if_pos (.inr rfl), if_pos (Nat.lt_succ_self _)]
            omega
          · have e3 : (if t < n + 1 then 1 else 0) = if t < n then 1 else 0 := by
              by_cases h2 : t < n
              · rw [if_pos h2, if_pos (by omega)]
              · rw [if_neg h2, if_neg (by omega)]
            rw [e3]
            by_cases h2 : A.st n = 2
            · rw [if_pos (.inl h2), if_pos h2]; omega
            · rw [if_neg (fun h => h.elim h2 h1), if_neg h2]; omega
      have := this G.n
      split at this <;> omega
    omega
  | next hB hb hv r ih =>
    rename_i A v p c k e
    refine ih (sinv_step I F hn hg hadj hB) (fun h2 => ?_) he
    rcases (stepA_st G A v t).2.1 h2 with k | k
    · exact hv k.symm
    · exact ht k
theorem hT_self (W : Int) (t : Nat) : hT W t t = 0 := by
  unfold hT manh
  rw [Int.sub_self, Int.sub_self]
  rfl
theorem start_t (s t : Nat) : (start0 s).st t ≠ 2 := by
  show updN (fun _ => 0) s 1 t ≠ 2
  unfold updN
  split <;> simp

theorem srch_settles {W H : Int} {l : List Int} {x y tx ty : Int} {p : List Nat} {c k : Int} (L : LandP W H l 0 0 W H) (h : Srch W H l x y tx ty l.length p c k 0) {D : Nat → Int} (F : IsFar (mapNet L) (idxN W (x, y)) D) :
    c = D (idxN W (tx, ty)) ∧ inB W H tx ty = true ∧
    (((List.range l.length).countP (fun v => decide (D v < infI ∧ D v + hT W (idxN W (tx, ty)) v < c)) : Nat) : Int) ≤ k ∧ k ≤ (((List.range l.length).countP (fun v => decide (D v < infI ∧ D v + hT W (idxN W (tx, ty)) v ≤ c)) : Nat) : Int) := by
  rcases h with ⟨n1, _, _, _, he⟩ | ⟨n1, L', s⟩
  · exact absurd he.symm n1
  · obtain ⟨a1, a2, a3, a4⟩ := findE_ok.1 n1
    have N := netOk L (idxN W (tx, ty))
    have hE := (s.ends N F).2.2
    rcases hE with ⟨_, o1, f⟩ | ⟨he, _⟩ | ⟨he, _⟩
    · rcases s with ⟨_, o2, r⟩ | s
      · have hc := f.cost
        have hs := run_settles r (sinv_start o1 F) F N.few N.guess N.adj (start_t _ _) (hT_self _ _) f.fin (fun v hv => absurd hv (start_t _ _)) rfl
        rw [← hc] at hs
        exact ⟨hc, a3, hs.1, hs.2⟩
      · exact absurd s.2.2.2.2 (by decide)
    · cases he
    · cases he

theorem far_shut {G : Net} {s : Nat} {D : Nat → Int} (F : IsFar G s D) (h : G.op s ≠ true) (v : Nat) : ¬ D v < infI := fun hv => h (F.way_of hv).ends.1

theorem srch_least {W H : Int} {l : List Int} {x y tx ty : Int} {p : List Nat} {c k e : Int} (L : LandP W H l 0 0 W H) (hin : inB W H x y = true ∧ inB W H tx ty = true) (h : Srch W H l x y tx ty l.length p c k e) {D : Nat → Int} (F : IsFar (mapNet L) (idxN W (x, y)) D) :
    (e = 0 ∧ c = D (idxN W (tx, ty)) ∧ D (idxN W (tx, ty)) < infI ∧ Told (mapNet L) (idxN W (x, y)) (idxN W (tx, ty)) p c k ∧ k ≤ l.length) ∨
    (e = 22 ∧ D (idxN W (tx, ty)) = infI ∧ p = [] ∧ c = 0 ∧ k = (((List.range l.length).countP (fun v => decide (D v < infI ∧ l.getD (idxN W (tx, ty)) 0 ≠ 0)) : Nat) : Int)) := by
  have hck : checkE W H l.length = 0 := checkE_ok.2 ⟨L.may, L.len⟩
  have hf : findE W H l.length x y tx ty (l.length : Nat) = 0 := findE_ok.2 ⟨hck, hin.1, hin.2, by omega⟩
  rcases h with ⟨n1, _⟩ | ⟨_, L', s⟩
  · exact absurd hf n1
  · have N := netOk L (idxN W (tx, ty))
    have hE := s.ends N F
    rcases hE.2.2 with ⟨rfl, o1, f⟩ | ⟨rfl, hp, hc, hw⟩ | ⟨_, _, _, _, hlt⟩
    · rcases s with ⟨_, o2, r⟩ | s
      · exact .inl ⟨rfl, f.cost, f.fin, run_told r (sinv_start o1 F) F N.few N.guess N.adj (start_t _ _) rfl, hE.2.1⟩
      · exact absurd s.2.2.2.2 (by decide)
    · right
      have hDt : D (idxN W (tx, ty)) = infI := by
        rcases hw with hw | hw
        · apply Classical.byContradiction
          intro hne
          have hlt : D (idxN W (tx, ty)) < infI := by have := F.le (idxN W (tx, ty)); omega
          have he := (F.way_of hlt).ends
          exact hw ⟨he.1, he.2.1⟩
        · exact hw.2
      refine ⟨rfl, hDt, hp, hc, ?_⟩
      rcases s with ⟨o1, o2, r⟩ | ⟨hno, _, _, rfl, _⟩
      · rw [run_all r (sinv_start o1 F) F N.few N.guess N.adj rfl]
        congr 1
        refine count_same fun v _ => ?_
        have hpos := ((op_iff L _).1 o2).2
        rw [Bool.eq_iff_iff]
        simp only [decide_eq_true_eq]
        exact ⟨fun h => ⟨h, by omega⟩, fun h => h.1⟩
      · by_cases o1 : (mapNet L).op (idxN W (x, y)) = true
        · have ht : ¬ (mapNet L).op (idxN W (tx, ty)) = true := fun h => hno ⟨o1, h⟩
          have i2 := inB_true.1 hin.2
          have htn := L.idx_lt (x := tx) (y := ty) (by omega)
          have h0 : l.getD (idxN W (tx, ty)) 0 = 0 := by
            have := (costI_bd L.u16 W (tx, ty)).1
            rw [cost_idx] at this
            have : ¬ 0 < l.getD (idxN W (tx, ty)) 0 := fun h => ht ((op_iff L _).2 ⟨htn, h⟩)
            omega
          rw [List.countP_eq_zero.2 (fun v _ => by simp only [decide_eq_true_eq]; exact fun h => h.2 h0)]
          rfl
        · rw [List.countP_eq_zero.2 (fun v _ => by simp only [decide_eq_true_eq]; exact fun h => far_shut F o1 v h.1)]
          rfl
    · exfalso
      have : (mapNet L).n = l.length := rfl
      omega
end Go.Proofs.Ytifbmapianddcaa

/- The walk of StarSettles. -/
namespace Go.Proofs.Ytifbmapianddcaa
open Go.RowKit

set_option maxRecDepth 100000 in
theorem ss_far {w : World} (W H : Int) (a : Option Addr) (n c : Nat) (x y tx ty b : Int) (hn : ¬ (n : Int) ≤ 150) :
    Calls Try.prog 3 #[.agg #[.int .i64 W, .int .i64 H, .slice a n c], .agg #[.int .i64 x, .int .i64 y, .int .i64 tx, .int .i64 ty, .int .i64 b]] w fun e w' => e = .returned (.bool true) ∧ Ext w w' := by
  have HS := hide (fun w' => small10_any W H a n c w')
  rw [show decide ((n : Int) ≤ 150) = false by simpa using hn] at HS
  clear hn
  go_enter Try.func3, Try.ntmps3
  go_wp2_with (first
    | (go_at_call 15; refine (HS.out _).mono ?_; rintro e w1 ⟨rfl, hb1⟩; obtain ⟨hc1, hf1⟩ := hb1.cells; have hz1 := hb1.size; (repeat (first | rw [World.size_alloc] at hz1 | rw [World.size_drew] at hz1)))
    | (go_at_call 16; refine (awake10_any _).mono ?_; rintro e w2 ⟨rfl, hb2⟩))
  go_ret
  exact ⟨rfl, (by (with_reducible (repeat' (first | exact Ext.refl _ | assumption | refine Ext.drew ?_ | refine Ext.drewN ?_ _ | refine Ext.alloc ?_ _ | refine Ext.setCell ?_ ?_ _ | refine Ext.trans ?_ (by assumption)))); all_goals (first | (simp; done) | (simp; omega)))⟩

set_option maxRecDepth 100000 in
theorem ss_bad {w : World} {W H : Int} {a : Option Addr} {l : List Int} (c : Nat) (x y tx ty b : Int) (hr : Row16 w a l) (hu : U16s l) (hn : (l.length : Int) ≤ 150) (he : lookE W H l.length 0 0 W H x y ≠ 0) :
    Calls Try.prog 3 #[.agg #[.int .i64 W, .int .i64 H, .slice a l.length c], .agg #[.int .i64 x, .int .i64 y, .int .i64 tx, .int .i64 ty, .int .i64 b]] w fun e w' => e = .returned (.bool true) ∧ Ext w w' := by
  have HS := hide (fun w' => small10_any W H a l.length c w')
  rw [show decide ((l.length : Int) ≤ 150) = true by simpa using hn] at HS
  have H1 := hide (fun (w' : World) => fFrom_bad (w := w') W H a l.length c x y he)
  have H2 := hide (fun (w' : World) (hx : Ext w w') => sFind_uni (w := w') W H a c x y tx ty (l.length : Int) (hr.ext hx) hu)
  obtain ⟨e1, he1⟩ : ∃ z, lookE W H l.length 0 0 W H x y = z := ⟨_, rfl⟩
  rw [he1] at H1 he
  obtain ⟨n, hnn⟩ : ∃ n, l.length = n := ⟨_, rfl⟩
  rw [hnn] at HS H1 H2 ⊢
  have f1 : (e1 != 0) = true := by simpa using he
  clear hn hr hu hnn he he1
  go_enter Try.func3, Try.ntmps3
  go_wp2_with (go_at_call 15; refine (HS.out _).mono ?_; rintro e w1 ⟨rfl, hb1⟩; obtain ⟨hc1, hf1⟩ := hb1.cells; have hz1 := hb1.size; (repeat (first | rw [World.size_alloc] at hz1 | rw [World.size_drew] at hz1)); have z1_0 : w.heap.size < w1.heap.size := (by omega); have z1_1 : w.heap.size + 1 < w1.heap.size := (by omega))
  refine (H1.out _).mono ?_
  rintro e w2 ⟨rfl, hb2⟩
  obtain ⟨hc2, hf2⟩ := hb2.cells; have hz2 := hb2.size; (repeat (first | rw [World.size_alloc] at hz2 | rw [World.size_drew] at hz2)); have z2_0 : w.heap.size < w2.heap.size := (by omega); have z2_1 : w.heap.size + 1 < w2.heap.size := (by omega)
  go_wp2_with fail
  refine (H2.out _ (by (with_reducible (repeat' (first | exact Ext.refl _ | assumption | refine Ext.drew ?_ | refine Ext.drewN ?_ _ | refine Ext.alloc ?_ _ | refine Ext.setCell ?_ ?_ _ | refine Ext.trans ?_ (by assumption)))); all_goals (first | (simp; done) | (simp; omega)))).mono ?_
  rintro e w3 ⟨hb3, p1, c1, k1, er, v1, hs1, rfl, ho1⟩
  obtain ⟨ra, rc, hrv⟩ := ho1.slice
  subst hrv
  obtain ⟨hc3, hf3⟩ := hb3.cells; have hz3 := hb3.size; (repeat (first | rw [World.size_alloc] at hz3 | rw [World.size_drew] at hz3)); have z3_0 : w.heap.size < w3.heap.size := (by omega); have z3_1 : w.heap.size + 1 < w3.heap.size := (by omega)
  clear hs1 ho1
  go_wp2_with (go_at_call 16; refine (awake10_any _).mono ?_; rintro e w6 ⟨rfl, hb6⟩)
  go_ret
  exact ⟨rfl, (by (with_reducible (repeat' (first | exact Ext.refl _ | assumption | refine Ext.drew ?_ | refine Ext.drewN ?_ _ | refine Ext.alloc ?_ _ | refine Ext.setCell ?_ ?_ _ | refine Ext.trans ?_ (by assumption)))); all_goals (first | (simp; done) | (simp; omega)))⟩

theorem own_u64 {w : World} {base : Nat} {v : Value} {l : List Int} (h : Own u64E w base 38 v l) (hl : 0 < l.length) : ∃ g c, v = .slice (some ⟨g, 0, none⟩) l.length c := by
  rcases h.2 with ⟨_, h0⟩ | ⟨g, cap, cur, hv, _⟩
  · omega
  · exact ⟨g, cap, hv⟩
theorem count_one (p : Nat → Bool) (k : Nat) : (List.range (k + 1)).countP p = (List.range k).countP p + if p k = true then 1 else 0 := by
  rw [List.range_succ, List.countP_append, List.countP_cons]
  simp

set_option maxRecDepth 100000 in
set_option maxHeartbeats 1000000 in
theorem ss_near {w : World} {W H : Int} {a : Option Addr} {l : List Int} (c : Nat) (x y tx ty b : Int) (hr : Row16 w a l) (hu : U16s l) (hn : (l.length : Int) ≤ 150) (he : lookE W H l.length 0 0 W H x y = 0) :
    Calls Try.prog 3 #[.agg #[.int .i64 W, .int .i64 H, .slice a l.length c], .agg #[.int .i64 x, .int .i64 y, .int .i64 tx, .int .i64 ty, .int .i64 b]] w fun e w' => e = .returned (.bool true) ∧ Ext w w' := by
  have HS := hide (fun w' => small10_any W H a l.length c w')
  rw [show decide ((l.length : Int) ≤ 150) = true by simpa using hn] at HS
  have H1 := hide (fun (w' : World) (hx : Ext w w') => fFrom_ok (w := w') c he (hr.ext hx) hu)
  have H2 := hide (fun (w' : World) (hx : Ext w w') => sFind_uni (w := w') W H a c x y tx ty (l.length : Int) (hr.ext hx) hu)
  have HLP := hide (landP_of he hu)
  have HSET := hide (fun (p : List Nat) (cc k : Int) (D : Nat → Int) (h : Srch W H l x y tx ty l.length p cc k 0) (F : IsFar (mapNet HLP.out) (idxN W (x, y)) D) => srch_settles HLP.out h F)
  have HM := hide HLP.out.may
  have wh := HLP.out.wh
  have HIN := hide (fun (w' : World) => r10In_any W H tx ty w' HM.out)
  have HV := hide (fun (v : Nat) (h : v < l.length) => HLP.out.v_in h)
  have hn1 : 1 ≤ l.length := by have := HLP.out.idx_lt (HLP.out.in_ (lookE_ok.1 he).2.2.2); omega
  obtain ⟨G, hG⟩ : ∃ G, mapNet (landP_of he hu) = G := ⟨_, rfl⟩
  have hGn : G.n = l.length := by rw [← hG]; rfl
  have HSET2 : Hid (∀ (p : List Nat) (cc k : Int) (D : Nat → Int) (h : Srch W H l x y tx ty l.length p cc k 0) (F : IsFar G (idxN W (x, y)) D), cc = D (idxN W (tx, ty)) ∧ inB W H tx ty = true ∧
    (((List.range l.length).countP (fun v => decide (D v < infI ∧ D v + hT W (idxN W (tx, ty)) v < cc)) : Nat) : Int) ≤ k ∧ k ≤ (((List.range l.length).countP (fun v => decide (D v < infI ∧ D v + hT W (idxN W (tx, ty)) v ≤ cc)) : Nat) : Int)) := hide (by rw [← hG]; exact HSET.out)
  rw [hG] at H1
  obtain ⟨n, hnn⟩ : ∃ n, l.length = n := ⟨_, rfl⟩
  rw [hnn] at HS H1 H2 HSET2 HV hn hGn hn1 ⊢
  have HGN := hide hGn
  clear hr hu he hnn hG HSET HLP hGn
  go_enter Try.func3, Try.ntmps3
  go_wp2_with (go_at_call 15; refine (HS.out _).mono ?_; rintro e w1 ⟨rfl, hb1⟩; obtain ⟨hc1, hf1⟩ := hb1.cells; have hz1 := hb1.size; (repeat (first | rw [World.size_alloc] at hz1 | rw [World.size_drew] at hz1)); have z1_0 : w.heap.size < w1.heap.size := (by omega); have z1_1 : w.heap.size + 1 < w1.heap.size := (by omega))
  have BF1 : Hid (Blk w1 (w.heap.size) 26 #[.int .i64 W, .int .i64 H, .slice a n c]) := hide (by refine Blk.ext ?_ hb1; (repeat' (first | exact Blk.new_ (by simp) | refine Blk.drew ?_ | refine Blk.over ?_)))
  have BE1 : Hid (Blk w1 (w.heap.size + 1) 30 #[.int .i64 x, .int .i64 y, .int .i64 tx, .int .i64 ty, .int .i64 b]) := hide (by refine Blk.ext ?_ hb1; (repeat' (first | exact Blk.new_ (by simp) | refine Blk.drew ?_ | refine Blk.over ?_)))
  refine (H1.out _ (by (with_reducible (repeat' (first | exact Ext.refl _ | assumption | refine Ext.drew ?_ | refine Ext.drewN ?_ _ | refine Ext.alloc ?_ _ | refine Ext.setCell ?_ ?_ _ | refine Ext.trans ?_ (by assumption)))); all_goals (first | (simp; done) | (simp; omega)))).mono ?_
  rintro e w2 ⟨v, far, rfl, hb2, hv, F, FL⟩
  obtain ⟨hc2, hf2⟩ := hb2.cells; have hz2 := hb2.size; (repeat (first | rw [World.size_alloc] at hz2 | rw [World.size_drew] at hz2)); have z2_0 : w.heap.size < w2.heap.size := (by omega); have z2_1 : w.heap.size + 1 < w2.heap.size := (by omega)
  have FF := hide F
  have LL := hide FL
  obtain ⟨va, vc, hva⟩ := hv.slice
  rw [farL_len] at hva
  subst hva
  have FO := hide hv
  clear F FL hv
  go_wp2_with fail
  refine (H2.out _ (by (with_reducible (repeat' (first | exact Ext.refl _ | assumption | refine Ext.drew ?_ | refine Ext.drewN ?_ _ | refine Ext.alloc ?_ _ | refine Ext.setCell ?_ ?_ _ | refine Ext.trans ?_ (by assumption)))); all_goals (first | (simp; done) | (simp; omega)))).mono ?_
  rintro e w3 ⟨hb3, p1, c1, k1, er, v1, hs1, rfl, ho1⟩
  obtain ⟨ra, rc, hrv⟩ := ho1.slice
  rw [List.length_map] at hrv
  subst hrv
  have hx13 : Ext w1 w3 := (by (with_reducible (repeat' (first | exact Ext.refl _ | assumption | refine Ext.drew ?_ | refine Ext.drewN ?_ _ | refine Ext.alloc ?_ _ | refine Ext.setCell ?_ ?_ _ | refine Ext.trans ?_ (by assumption)))); all_goals (first | (simp; done) | (simp; omega)))
  have BF3 := hide (Blk.ext BF1.out hx13)
  have BE3 := hide (Blk.ext BE1.out hx13)
  have FO3 := hide (FO.out.ext hb3)
  have HX3 := hide (show Ext w w3 from (by (with_reducible (repeat' (first | exact Ext.refl _ | assumption | refine Ext.drew ?_ | refine Ext.drewN ?_ _ | refine Ext.alloc ?_ _ | refine Ext.setCell ?_ ?_ _ | refine Ext.trans ?_ (by assumption)))); all_goals (first | (simp; done) | (simp; omega))))
  have HSR := hide hs1
  clear ho1 hs1 hx13 hc1 hf1 hc2 hf2 BF1 BE1 FO hb1 hb2 hb3
  by_cases her : er = 0
  · subst her
    obtain ⟨hcd, hin, hlo, hhi⟩ := HSET2.out _ _ _ _ HSR.out FF.out
    have HLO := hide hlo
    have HHI := hide hhi
    have it := inB_true.1 hin
    have hvt : vx W (idxN W (tx, ty)) = tx ∧ vy W (idxN W (tx, ty)) = ty := ⟨vx_idx (by omega) (by omega) (by omega), vy_idx (by omega) (by omega) (by omega)⟩
    have HT : Hid (∀ v, hT W (idxN W (tx, ty)) v = manh (vx W v) (vy W v) tx ty) := hide (fun v => by unfold hT; rw [hvt.1, hvt.2])
    rw [hin] at HIN
    have HIT := hide it
    obtain ⟨g, cg, hvg⟩ := own_u64 FO3.out (by rw [farL_len]; omega)
    rw [farL_len] at hvg
    injection hvg with e1 _ e2
    subst e1 e2
    have FA3 := hide (show FarAt w3 w1.heap.size g vc far n from FO3.out)
    have hgw := FA3.out.lt
    clear hlo hhi FO3 hcd hin it hvt
    have f0 := BF3.out.at 0 rfl; have f1 := BF3.out.at 1 rfl; have f2 := BF3.out.at 2 rfl; have fz := BF3.out.lt
    have g0 := BE3.out.at 0 rfl; have g1 := BE3.out.at 1 rfl; have g2 := BE3.out.at 2 rfl; have g3 := BE3.out.at 3 rfl; have g4 := BE3.out.at 4 rfl; have gz := BE3.out.lt
    have d1 : decide (W < 1) = false := by simp; omega
    go_wp2_with fail
    obtain ⟨w4, hw4⟩ : ∃ w4, w4 = w3.alloc (.cells #[.slice ra p1.length rc, .int .u64 c1, .int .i64 k1] 40) := ⟨_, rfl⟩
    have hx4 : Ext w3 w4 := by rw [hw4]; exact (Ext.refl _).alloc _
    have Y4 := hide (show Blk w4 w3.heap.size 40 #[.slice ra p1.length rc, .int .u64 c1, .int .i64 k1] by rw [hw4]; exact Blk.new_ rfl)
    rw [← hw4]
    obtain ⟨yb, hyb⟩ : ∃ z, w3.heap.size = z := ⟨_, rfl⟩
    rw [hyb] at Y4 ⊢
    have HX4 := hide hx4
    clear hw4 hx4 hyb f0 f1 f2 fz g0 g1 g2 g3 g4 gz d1
    refine (HIN.out _).mono ?_
    rintro e w5 ⟨rfl, hb5⟩
    have hx35 := HX4.out.trans hb5
    have BF5 := hide (Blk.ext BF3.out hx35)
    have BE5 := hide (Blk.ext BE3.out hx35)
    have Y5 := hide (Blk.ext Y4.out hb5)
    have FA5 := hide (FA3.out.ext hx35)
    have HX5 := hide (HX3.out.trans hx35)
    clear hb5 hx35 BF3 BE3 Y4 FA3 HX4 HX3 hgw hz1 hz2 z1_0 z1_1 z2_0 z2_1
    go_wp2_with fail
    go_loopw [9, 10, 11] (fun lv mv iv wr => ∃ k : Nat, k ≤ n ∧ iv = .int .i64 k ∧ lv = .int .i64 (((List.range k).countP (fun v => decide (far v < infI ∧ far v + hT W (idxN W (tx, ty)) v < c1)) : Nat) : Int) ∧ mv = .int .i64 (((List.range k).countP (fun v => decide (far v < infI ∧ far v + hT W (idxN W (tx, ty)) v ≤ c1)) : Nat) : Int) ∧ Ext w5 wr) (fun _ _ iv _ => n - (intOf iv).toNat)
    case atStart => exact ⟨0, Nat.zero_le _, rfl, rfl, rfl, Ext.refl _⟩
    case round =>
      obtain ⟨k, hk, rfl, rfl, rfl, hxr⟩ := hrel
      have HXR := hide hxr
      have BFr := hide (Blk.ext BF5.out hxr)
      have BEr := hide (Blk.ext BE5.out hxr)
      have Yr := hide (Blk.ext Y5.out hxr)
      have FAr := hide (FA5.out.ext hxr)
      have hb1 := List.countP_le_length (p := fun v => decide (far v < infI ∧ far v + hT W (idxN W (tx, ty)) v < c1)) (l := List.range k)
      have hb2 := List.countP_le_length (p := fun v => decide (far v < infI ∧ far v + hT W (idxN W (tx, ty)) v ≤ c1)) (l := List.range k)
      rw [List.length_range] at hb1 hb2
      clear hxr
      by_cases hlt : k < n
      · have HC1 := hide (count_one (fun v => decide (far v < infI ∧ far v + hT W (idxN W (tx, ty)) v < c1)) k)
        have HC2 := hide (count_one (fun v => decide (far v < infI ∧ far v + hT W (idxN W (tx, ty)) v ≤ c1)) k)
        generalize (List.range k).countP (fun v => decide (far v < infI ∧ far v + hT W (idxN W (tx, ty)) v < c1)) = m1 at *
        generalize (List.range k).countP (fun v => decide (far v < infI ∧ far v + hT W (idxN W (tx, ty)) v ≤ c1)) = m2 at *
        rw [HT.out k] at HC1 HC2
        have vk := HV.out k hlt
        have it := HIT.out
        have hmb := manh_bd (x := vx W k) (y := vy W k) (tx := tx) (ty := ty) (by omega) (by omega) (by omega) (by omega)
        have HGS := hide (fun (w' : World) => r10Guess_any (vx W k) (vy W k) tx ty w' (by omega) (by omega) (by omega) (by omega))
        have k1' : (k : Int).tmod W = vx W k := tmod_in (by omega) (by omega) (by omega)
        have k2 : IntKind.i64.wrap ((k : Int).tdiv W) = vy W k := tdiv_in (by omega) (by omega) (by omega)
        have k2' : IntKind.i64.wrap ((k : Int) / W) = vy W k := by rw [← k2, Int.tdiv_eq_ediv_of_nonneg (by omega)]
        have hW0 : ¬ W = 0 := by omega
        obtain ⟨hv, hhv⟩ : ∃ z, manh (vx W k) (vy W k) tx ty = z := ⟨_, rfl⟩
        rw [hhv] at hmb HGS HC1 HC2
        obtain ⟨X, hX⟩ : ∃ z, vx W k = z := ⟨_, rfl⟩
        obtain ⟨Y, hY⟩ : ∃ z, vy W k = z := ⟨_, rfl⟩
        rw [hX] at k1' HGS
        rw [hY] at k2 k2' HGS
        have hfl := LL.out k
        rw [HGN.out] at hfl
        have hfn := FF.out.nn k
        have hfi := FF.out.le k
        have hfc := (FAr.out.cell hlt).1
        have hgz := FAr.out.lt.2
        obtain ⟨fk, hfk⟩ : ∃ z, far k = z := ⟨_, rfl⟩
        rw [hfk] at hfl hfn hfi hfc HC1 HC2
        have jk : (k : Int) < (n : Int) := by omega
        have eI : infI = 18446744073709551615 := rfl
        have hFL : Hid (fk ≠ 18446744073709551615 → fk ≤ 65535 * (n : Int)) := hide (fun h => hfl (by omega))
        clear hhv hX hY hfk vk it hfl hfi eI
        have f0 := BFr.out.at 0 rfl; have f1 := BFr.out.at 1 rfl; have f2 := BFr.out.at 2 rfl; have fz := BFr.out.lt
        have h0 := BEr.out.at 0 rfl; have h1 := BEr.out.at 1 rfl; have h2 := BEr.out.at 2 rfl; have h3 := BEr.out.at 3 rfl; have h4 := BEr.out.at 4 rfl; have hz := BEr.out.lt
        go_wp2_with fail
        refine seqH_start (S := (fun W => (∀ b o, b < wr.heap.size → W.cell? ⟨b, o, none⟩ = wr.cell? ⟨b, o, none⟩) ∧ Ext wr W)) [(0, true), (1, true), (2, true), (3, true), (4, true), (5, true), (6, true), (7, true), (8, true), (9, true), (10, true), (11, true), (12, true), (13, false), (14, true)] (by kernel_rfl) (by kernel_rfl) (by kernel_rfl) (by decide) (fun _ _ d _ _ h => by cases d <;> exact h) (by first | with_reducible exact pr_start _ | exact pr_of (by (with_reducible (repeat' (first | exact Ext.refl _ | assumption | refine Ext.drew ?_ | refine Ext.drewN ?_ _ | refine Ext.alloc ?_ _ | refine Ext.setCell ?_ ?_ _ | refine Ext.trans ?_ (by assumption)))); all_goals (first | (simp; done) | (simp; omega)))) (fun hHeld => ?_)
        iterate 13 (apply SeqH.free; (· (simp only [List.getElem?_toArray, List.getElem?_cons_succ, List.getElem?_cons_zero]; rfl)); (· first | exact Or.inr ⟨by rfl, rfl⟩ | (refine Or.inl ⟨by rfl, ?_⟩; intro w hSw; (try dsimp only at hSw); go_simp; try with_reducible rfl)); try simp only [Act.put, List.setIfInBounds_toArray, List.set_cons_zero, List.set_cons_succ])
        (apply SeqH.step; (· (simp only [List.getElem?_toArray, List.getElem?_cons_succ, List.getElem?_cons_zero]; rfl)); intro K hK; go_simp; refine (HGS.out _).mono ?_; rintro e w7 ⟨rfl, hb7⟩; go_wp2_with fail; refine hK.out _ _ (pr_of (by (with_reducible (repeat' (first | exact Ext.refl _ | assumption | refine Ext.drew ?_ | refine Ext.drewN ?_ _ | refine Ext.alloc ?_ _ | refine Ext.setCell ?_ ?_ _ | refine Ext.trans ?_ (by assumption)))); all_goals (first | (simp; done) | (simp; omega)))) (fun hHeld => ?_); clear hK K; try simp only [Act.put, List.setIfInBounds_toArray, List.set_cons_zero, List.set_cons_succ])
        iterate 1 (apply SeqH.free; (· (simp only [List.getElem?_toArray, List.getElem?_cons_succ, List.getElem?_cons_zero]; rfl)); (· first | exact Or.inr ⟨by rfl, rfl⟩ | (refine Or.inl ⟨by rfl, ?_⟩; intro w hSw; (try dsimp only at hSw); go_simp; try with_reducible rfl)); try simp only [Act.put, List.setIfInBounds_toArray, List.set_cons_zero, List.set_cons_succ])
        refine SeqH.done ?_
        have hx7 := hHeld.2
        have HX7 := hide (HXR.out.trans hx7)
        have hfc7 := (hx7.cell (p := ⟨g, k, none⟩) hgz).trans hfc
        have hgz7 : g < w7.heap.size := Nat.lt_of_lt_of_le hgz hx7.size
        have Y7 := hide (Blk.ext Yr.out hx7)
        clear hHeld hb7 hx7 f0 f1 f2 fz h0 h1 h2 h3 h4 hz k1' k2 k2' hW0 hfc hgz
        have y0 := Y7.out.at 0 rfl; have y1 := Y7.out.at 1 rfl; have y2 := Y7.out.at 2 rfl; have yz := Y7.out.lt
        by_cases hinf : fk = 18446744073709551615
        · subst hinf
          have HE1 : Hid ((List.range (k + 1)).countP (fun v => decide (far v < infI ∧ far v + hT W (idxN W (tx, ty)) v < c1)) = m1) := hide (by rw [HC1.out, if_neg (by simp only [decide_eq_true_eq]; exact fun h => absurd h.1 (Int.lt_irrefl infI))]; rfl)
          have HE2 : Hid ((List.range (k + 1)).countP (fun v => decide (far v < infI ∧ far v + hT W (idxN W (tx, ty)) v ≤ c1)) = m2) := hide (by rw [HC2.out, if_neg (by simp only [decide_eq_true_eq]; exact fun h => absurd h.1 (Int.lt_irrefl infI))]; rfl)
          clear HC1 HC2
          have fne : ((18446744073709551615 : Int) != 18446744073709551615) = false := by decide
          go_wp2_with fail
          refine seqH_start (S := (fun W => (∀ b o, b < w7.heap.size → W.cell? ⟨b, o, none⟩ = w7.cell? ⟨b, o, none⟩) ∧ Ext w7 W)) [(0, true), (1, true), (2, true), (3, true), (4, true), (5, true), (6, true), (7, true), (8, true), (9, true), (10, true), (11, true), (12, true), (13, true), (14, true), (15, true)] (by kernel_rfl) (by kernel_rfl) (by kernel_rfl) (by decide) (fun _ _ d _ _ h => by cases d <;> exact h) (by first | with_reducible exact pr_start _ | exact pr_of (by (with_reducible (repeat' (first | exact Ext.refl _ | assumption | refine Ext.drew ?_ | refine Ext.drewN ?_ _ | refine Ext.alloc ?_ _ | refine Ext.setCell ?_ ?_ _ | refine Ext.trans ?_ (by assumption)))); all_goals (first | (simp; done) | (simp; omega)))) (fun hHeld => ?_)
          iterate 16 (apply SeqH.free; (· (simp only [List.getElem?_toArray, List.getElem?_cons_succ, List.getElem?_cons_zero]; rfl)); (· first | exact Or.inr ⟨by rfl, rfl⟩ | (refine Or.inl ⟨by rfl, ?_⟩; intro w hSw; (try dsimp only at hSw); go_simp; try with_reducible rfl)); try simp only [Act.put, List.setIfInBounds_toArray, List.set_cons_zero, List.set_cons_succ])
          refine SeqH.done ?_
          clear hHeld
          obtain ⟨w8, hw8⟩ : ∃ z, z = w7.drew := ⟨_, rfl⟩
          have hx8 : Ext w7 w8 := by rw [hw8]; exact (Ext.refl _).drew
          have hfc8 := (hx8.cell (p := ⟨g, k, none⟩) hgz7).trans hfc7
          have hgz8 : g < w8.heap.size := Nat.lt_of_lt_of_le hgz7 hx8.size
          have Y8 := hide (Blk.ext Y7.out hx8)
          have HX8 := hide (HX7.out.trans hx8)
          rw [← hw8]
          clear hw8 hx8 hfc7 hgz7 y0 y1 y2 yz
          have y0 := Y8.out.at 0 rfl; have y1 := Y8.out.at 1 rfl; have y2 := Y8.out.at 2 rfl; have yz := Y8.out.lt
          go_wp2_with fail
          refine seqH_start (S := (fun W => (∀ b o, b < w8.heap.size → W.cell? ⟨b, o, none⟩ = w8.cell? ⟨b, o, none⟩) ∧ Ext w8 W)) [(0, true), (1, true), (2, true), (3, true), (4, true), (5, true), (6, true), (7, true), (8, true), (9, true), (10, true), (11, true), (12, true), (13, true), (14, true), (15, true)] (by kernel_rfl) (by kernel_rfl) (by kernel_rfl) (by decide) (fun _ _ d _ _ h => by cases d <;> exact h) (by first | with_reducible exact pr_start _ | exact pr_of (by (with_reducible (repeat' (first | exact Ext.refl _ | assumption | refine Ext.drew ?_ | refine Ext.drewN ?_ _ | refine Ext.alloc ?_ _ | refine Ext.setCell ?_ ?_ _ | refine Ext.trans ?_ (by assumption)))); all_goals (first | (simp; done) | (simp; omega)))) (fun hHeld => ?_)
          iterate 16 (apply SeqH.free; (· (simp only [List.getElem?_toArray, List.getElem?_cons_succ, List.getElem?_cons_zero]; rfl)); (· first | exact Or.inr ⟨by rfl, rfl⟩ | (refine Or.inl ⟨by rfl, ?_⟩; intro w hSw; (try dsimp only at hSw); go_simp; try with_reducible rfl)); try simp only [Act.put, List.setIfInBounds_toArray, List.set_cons_zero, List.set_cons_succ])
          refine SeqH.done ?_
          have hx9 := hHeld.2
          clear hHeld
          go_wp2_with fail
          go_roundw
          case rel => exact ⟨k + 1, hlt, by go_num, by rw [HE1.out] <;> go_num, by rw [HE2.out] <;> go_num, HX8.out.trans hx9⟩
          case measure => simp [intOf]; omega
        · have hfl2 := hFL.out hinf
          have hlt2 : fk < 18446744073709551615 := by omega
          have k5 : IntKind.u64.wrap (fk + hv) = fk + hv := by rw [IntKind.wrap_u64]; omega
          have fne : (fk != 18446744073709551615) = true := by simpa using hinf
          have HE0 : Hid (fk < infI) := hide hlt2
          clear hlt2 hfl2 hinf
          by_cases h1 : fk + hv < c1
          · have l1 : decide (fk + hv < c1) = true := by simpa using h1
            have l2 : decide (fk + hv ≤ c1) = true := by simp; omega
            have HE1 : Hid ((List.range (k + 1)).countP (fun v => decide (far v < infI ∧ far v + hT W (idxN W (tx, ty)) v < c1)) = m1 + 1) := hide (by rw [HC1.out, if_pos (by simp only [decide_eq_true_eq]; exact ⟨HE0.out, h1⟩)])
            have HE2 : Hid ((List.range (k + 1)).countP (fun v => decide (far v < infI ∧ far v + hT W (idxN W (tx, ty)) v ≤ c1)) = m2 + 1) := hide (by rw [HC2.out, if_pos (by simp only [decide_eq_true_eq]; exact ⟨HE0.out, by omega⟩)])
            clear HC1 HC2 h1
            go_wp2_with fail
            refine seqH_start (S := (fun W => (∀ b o, b < w7.heap.size → W.cell? ⟨b, o, none⟩ = w7.cell? ⟨b, o, none⟩) ∧ Ext w7 W)) [(0, true), (1, true), (2, true), (3, true), (4, true), (5, true), (6, true), (7, true), (8, true), (9, true), (10, true), (11, true), (12, true), (13, true), (14, true), (15, true)] (by kernel_rfl) (by kernel_rfl) (by kernel_rfl) (by decide) (fun _ _ d _ _ h => by cases d <;> exact h) (by first | with_reducible exact pr_start _ | exact pr_of (by (with_reducible (repeat' (first | exact Ext.refl _ | assumption | refine Ext.drew ?_ | refine Ext.drewN ?_ _ | refine Ext.alloc ?_ _ | refine Ext.setCell ?_ ?_ _ | refine Ext.trans ?_ (by assumption)))); all_goals (first | (simp; done) | (simp; omega)))) (fun hHeld => ?_)
            iterate 16 (apply SeqH.free; (· (simp only [List.getElem?_toArray, List.getElem?_cons_succ, List.getElem?_cons_zero]; rfl)); (· first | exact Or.inr ⟨by rfl, rfl⟩ | (refine Or.inl ⟨by rfl, ?_⟩; intro w hSw; (try dsimp only at hSw); go_simp; try with_reducible rfl)); try simp only [Act.put, List.setIfInBounds_toArray, List.set_cons_zero, List.set_cons_succ])
            refine SeqH.done ?_
            clear hHeld
            obtain ⟨w8, hw8⟩ : ∃ z, z = w7.drew := ⟨_, rfl⟩
            have hx8 : Ext w7 w8 := by rw [hw8]; exact (Ext.refl _).drew
            have hfc8 := (hx8.cell (p := ⟨g, k, none⟩) hgz7).trans hfc7
            have hgz8 : g < w8.heap.size := Nat.lt_of_lt_of_le hgz7 hx8.size
            have Y8 := hide (Blk.ext Y7.out hx8)
            have HX8 := hide (HX7.out.trans hx8)
            rw [← hw8]
            clear hw8 hx8 hfc7 hgz7 y0 y1 y2 yz
            have y0 := Y8.out.at 0 rfl; have y1 := Y8.out.at 1 rfl; have y2 := Y8.out.at 2 rfl; have yz := Y8.out.lt
            go_wp2_with fail
            refine seqH_start (S := (fun W => (∀ b o, b < w8.heap.size → W.cell? ⟨b, o, none⟩ = w8.cell? ⟨b, o, none⟩) ∧ Ext w8 W)) [(0, true), (1, true), (2, true), (3, true), (4, true), (5, true), (6, true), (7, true), (8, true), (9, true), (10, true), (11, true), (12, true), (13, true), (14, true), (15, true)] (by kernel_rfl) (by kernel_rfl) (by kernel_rfl) (by decide) (fun _ _ d _ _ h => by cases d <;> exact h) (by first | with_reducible exact pr_start _ | exact pr_of (by (with_reducible (repeat' (first | exact Ext.refl _ | assumption | refine Ext.drew ?_ | refine Ext.drewN ?_ _ | refine Ext.alloc ?_ _ | refine Ext.setCell ?_ ?_ _ | refine Ext.trans ?_ (by assumption)))); all_goals (first | (simp; done) | (simp; omega)))) (fun hHeld => ?_)
            iterate 16 (apply SeqH.free; (· (simp only [List.getElem?_toArray, List.getElem?_cons_succ, List.getElem?_cons_zero]; rfl)); (· first | exact Or.inr ⟨by rfl, rfl⟩ | (refine Or.inl ⟨by rfl, ?_⟩; intro w hSw; (try dsimp only at hSw); go_simp; try with_reducible rfl)); try simp only [Act.put, List.setIfInBounds_toArray, List.set_cons_zero, List.set_cons_succ])
            refine SeqH.done ?_
            have hx9 := hHeld.2
            clear hHeld
            go_wp2_with fail
            go_roundw
            case rel => exact ⟨k + 1, hlt, by go_num, by rw [HE1.out] <;> go_num, by rw [HE2.out] <;> go_num, HX8.out.trans hx9⟩
            case measure => simp [intOf]; omega
          · by_cases h2 : fk + hv ≤ c1
            · have l1 : decide (fk + hv < c1) = false := by simpa using h1
              have l2 : decide (fk + hv ≤ c1) = true := by simpa using h2
              have HE1 : Hid ((List.range (k + 1)).countP (fun v => decide (far v < infI ∧ far v + hT W (idxN W (tx, ty)) v < c1)) = m1) := hide (by rw [HC1.out, if_neg (by simp only [decide_eq_true_eq]; exact fun h => h1 h.2)]; rfl)
              have HE2 : Hid ((List.range (k + 1)).countP (fun v => decide (far v < infI ∧ far v + hT W (idxN W (tx, ty)) v ≤ c1)) = m2 + 1) := hide (by rw [HC2.out, if_pos (by simp only [decide_eq_true_eq]; exact ⟨HE0.out, h2⟩)])
              clear HC1 HC2 h1 h2
              go_wp2_with fail
              refine seqH_start (S := (fun W => (∀ b o, b < w7.heap.size → W.cell? ⟨b, o, none⟩ = w7.cell? ⟨b, o, none⟩) ∧ Ext w7 W)) [(0, true), (1, true), (2, true), (3, true), (4, true), (5, true), (6, true), (7, true), (8, true), (9, true), (10, true), (11, true), (12, true), (13, true), (14, true), (15, true)] (by kernel_rfl) (by kernel_rfl) (by kernel_rfl) (by decide) (fun _ _ d _ _ h => by cases d <;> exact h) (by first | with_reducible exact pr_start _ | exact pr_of (by (with_reducible (repeat' (first | exact Ext.refl _ | assumption | refine Ext.drew ?_ | refine Ext.drewN ?_ _ | refine Ext.alloc ?_ _ | refine Ext.setCell ?_ ?_ _ | refine Ext.trans ?_ (by assumption)))); all_goals (first | (simp; done) | (simp; omega)))) (fun hHeld => ?_)
              iterate 16 (apply SeqH.free; (· (simp only [List.getElem?_toArray, List.getElem?_cons_succ, List.getElem?_cons_zero]; rfl)); (· first | exact Or.inr ⟨by rfl, rfl⟩ | (refine Or.inl ⟨by rfl, ?_⟩; intro w hSw; (try dsimp only at hSw); go_simp; try with_reducible rfl)); try simp only [Act.put, List.setIfInBounds_toArray, List.set_cons_zero, List.set_cons_succ])
              refine SeqH.done ?_
              clear hHeld
              obtain ⟨w8, hw8⟩ : ∃ z, z = w7.drew := ⟨_, rfl⟩
              have hx8 : Ext w7 w8 := by rw [hw8]; exact (Ext.refl _).drew
              have hfc8 := (hx8.cell (p := ⟨g, k, none⟩) hgz7).trans hfc7
              have hgz8 : g < w8.heap.size := Nat.lt_of_lt_of_le hgz7 hx8.size
              have Y8 := hide (Blk.ext Y7.out hx8)
              have HX8 := hide (HX7.out.trans hx8)
              rw [← hw8]
              clear hw8 hx8 hfc7 hgz7 y0 y1 y2 yz
              have y0 := Y8.out.at 0 rfl; have y1 := Y8.out.at 1 rfl; have y2 := Y8.out.at 2 rfl; have yz := Y8.out.lt
              go_wp2_with fail
              refine seqH_start (S := (fun W => (∀ b o, b < w8.heap.size → W.cell? ⟨b, o, none⟩ = w8.cell? ⟨b, o, none⟩) ∧ Ext w8 W)) [(0, true), (1, true), (2, true), (3, true), (4, true), (5, true), (6, true), (7, true), (8, true), (9, true), (10, true), (11, true), (12, true), (13, true), (14, true), (15, true)] (by kernel_rfl) (by kernel_rfl) (by kernel_rfl) (by decide) (fun _ _ d _ _ h => by cases d <;> exact h) (by first | with_reducible exact pr_start _ | exact pr_of (by (with_reducible (repeat' (first | exact Ext.refl _ | assumption | refine Ext.drew ?_ | refine Ext.drewN ?_ _ | refine Ext.alloc ?_ _ | refine Ext.setCell ?_ ?_ _ | refine Ext.trans ?_ (by assumption)))); all_goals (first | (simp; done) | (simp; omega)))) (fun hHeld => ?_)
              iterate 16 (apply SeqH.free; (· (simp only [List.getElem?_toArray, List.getElem?_cons_succ, List.getElem?_cons_zero]; rfl)); (· first | exact Or.inr ⟨by rfl, rfl⟩ | (refine Or.inl ⟨by rfl, ?_⟩; intro w hSw; (try dsimp only at hSw); go_simp; try with_reducible rfl)); try simp only [Act.put, List.setIfInBounds_toArray, List.set_cons_zero, List.set_cons_succ])
              refine SeqH.done ?_
              have hx9 := hHeld.2
              clear hHeld
              go_wp2_with fail
              go_roundw
              case rel => exact ⟨k + 1, hlt, by go_num, by rw [HE1.out] <;> go_num, by rw [HE2.out] <;> go_num, HX8.out.trans hx9⟩
              case measure => simp [intOf]; omega
            · have l1 : decide (fk + hv < c1) = false := by simpa using h1
              have l2 : decide (fk + hv ≤ c1) = false := by simpa using h2
              have HE1 : Hid ((List.range (k + 1)).countP (fun v => decide (far v < infI ∧ far v + hT W (idxN W (tx, ty)) v < c1)) = m1) := hide (by rw [HC1.out, if_neg (by simp only [decide_eq_true_eq]; exact fun h => h1 h.2)]; rfl)
              have HE2 : Hid ((List.range (k + 1)).countP (fun v => decide (far v < infI ∧ far v + hT W (idxN W (tx, ty)) v ≤ c1)) = m2) := hide (by rw [HC2.out, if_neg (by simp only [decide_eq_true_eq]; exact fun h => h2 h.2)]; rfl)
              clear HC1 HC2 h1 h2
              go_wp2_with fail
              refine seqH_start (S := (fun W => (∀ b o, b < w7.heap.size → W.cell? ⟨b, o, none⟩ = w7.cell? ⟨b, o, none⟩) ∧ Ext w7 W)) [(0, true), (1, true), (2, true), (3, true), (4, true), (5, true), (6, true), (7, true), (8, true), (9, true), (10, true), (11, true), (12, true), (13, true), (14, true), (15, true)] (by kernel_rfl) (by kernel_rfl) (by kernel_rfl) (by decide) (fun _ _ d _ _ h => by cases d <;> exact h) (by first | with_reducible exact pr_start _ | exact pr_of (by (with_reducible (repeat' (first | exact Ext.refl _ | assumption | refine Ext.drew ?_ | refine Ext.drewN ?_ _ | refine Ext.alloc ?_ _ | refine Ext.setCell ?_ ?_ _ | refine Ext.trans ?_ (by assumption)))); all_goals (first | (simp; done) | (simp; omega)))) (fun hHeld => ?_)
              iterate 16 (apply SeqH.free; (· (simp only [List.getElem?_toArray, List.getElem?_cons_succ, List.getElem?_cons_zero]; rfl)); (· first | exact Or.inr ⟨by rfl, rfl⟩ | (refine Or.inl ⟨by rfl, ?_⟩; intro w hSw; (try dsimp only at hSw); go_simp; try with_reducible rfl)); try simp only [Act.put, List.setIfInBounds_toArray, List.set_cons_zero, List.set_cons_succ])
              refine SeqH.done ?_
              clear hHeld
              obtain ⟨w8, hw8⟩ : ∃ z, z = w7.drew := ⟨_, rfl⟩
              have hx8 : Ext w7 w8 := by rw [hw8]; exact (Ext.refl _).drew
              have hfc8 := (hx8.cell (p := ⟨g, k, none⟩) hgz7).trans hfc7
              have hgz8 : g < w8.heap.size := Nat.lt_of_lt_of_le hgz7 hx8.size
              have Y8 := hide (Blk.ext Y7.out hx8)
              have HX8 := hide (HX7.out.trans hx8)
              rw [← hw8]
              clear hw8 hx8 hfc7 hgz7 y0 y1 y2 yz
              have y0 := Y8.out.at 0 rfl; have y1 := Y8.out.at 1 rfl; have y2 := Y8.out.at 2 rfl; have yz := Y8.out.lt
              go_wp2_with fail
              refine seqH_start (S := (fun W => (∀ b o, b < w8.heap.size → W.cell? ⟨b, o, none⟩ = w8.cell? ⟨b, o, none⟩) ∧ Ext w8 W)) [(0, true), (1, true), (2, true), (3, true), (4, true), (5, true), (6, true), (7, true), (8, true), (9, true), (10, true), (11, true), (12, true), (13, true), (14, true), (15, true)] (by kernel_rfl) (by kernel_rfl) (by kernel_rfl) (by decide) (fun _ _ d _ _ h => by cases d <;> exact h) (by first | with_reducible exact pr_start _ | exact pr_of (by (with_reducible (repeat' (first | exact Ext.refl _ | assumption | refine Ext.drew ?_ | refine Ext.drewN ?_ _ | refine Ext.alloc ?_ _ | refine Ext.setCell ?_ ?_ _ | refine Ext.trans ?_ (by assumption)))); all_goals (first | (simp; done) | (simp; omega)))) (fun hHeld => ?_)
              iterate 16 (apply SeqH.free; (· (simp only [List.getElem?_toArray, List.getElem?_cons_succ, List.getElem?_cons_zero]; rfl)); (· first | exact Or.inr ⟨by rfl, rfl⟩ | (refine Or.inl ⟨by rfl, ?_⟩; intro w hSw; (try dsimp only at hSw); go_simp; try with_reducible rfl)); try simp only [Act.put, List.setIfInBounds_toArray, List.set_cons_zero, List.set_cons_succ])
              refine SeqH.done ?_
              have hx9 := hHeld.2
              clear hHeld
              go_wp2_with fail
              go_roundw
              case rel => exact ⟨k + 1, hlt, by go_num, by rw [HE1.out] <;> go_num, by rw [HE2.out] <;> go_num, HX8.out.trans hx9⟩
              case measure => simp [intOf]; omega
      · obtain rfl : n = k := by omega
        have hlo := HLO.out
        have hhi := HHI.out
        generalize (List.range n).countP (fun v => decide (far v < infI ∧ far v + hT W (idxN W (tx, ty)) v < c1)) = m1 at *
        generalize (List.range n).countP (fun v => decide (far v < infI ∧ far v + hT W (idxN W (tx, ty)) v ≤ c1)) = m2 at *
        have l1 : decide ((m1 : Int) ≤ k1) = true := by simpa using hlo
        have l2 : decide (k1 ≤ (m2 : Int)) = true := by simpa using hhi
        have hxr := HX5.out.trans HXR.out
        clear hlo hhi
        have y0 := Yr.out.at 0 rfl; have y1 := Yr.out.at 1 rfl; have y2 := Yr.out.at 2 rfl; have yz := Yr.out.lt
        go_wp2_with (go_at_call 16; refine (awake10_any _).mono ?_; rintro e w10 ⟨rfl, hb10⟩)
        go_ret
        exact ⟨rfl, (by (with_reducible (repeat' (first | exact Ext.refl _ | assumption | refine Ext.drew ?_ | refine Ext.drewN ?_ _ | refine Ext.alloc ?_ _ | refine Ext.setCell ?_ ?_ _ | refine Ext.trans ?_ (by assumption)))); all_goals (first | (simp; done) | (simp; omega)))⟩
  · have f1 : (er != 0) = true := by simpa using her
    have hx3 := HX3.out
    have f0 := BF3.out.at 0 rfl; have f1 := BF3.out.at 1 rfl; have f2 := BF3.out.at 2 rfl; have fz := BF3.out.lt
    have g0 := BE3.out.at 0 rfl; have g1 := BE3.out.at 1 rfl; have g2 := BE3.out.at 2 rfl; have g3 := BE3.out.at 3 rfl; have g4 := BE3.out.at 4 rfl; have gz := BE3.out.lt
    clear her
    go_wp2_with (go_at_call 16; refine (awake10_any _).mono ?_; rintro e w6 ⟨rfl, hb6⟩)
    go_ret
    exact ⟨rfl, (by (with_reducible (repeat' (first | exact Ext.refl _ | assumption | refine Ext.drew ?_ | refine Ext.drewN ?_ _ | refine Ext.alloc ?_ _ | refine Ext.setCell ?_ ?_ _ | refine Ext.trans ?_ (by assumption)))); all_goals (first | (simp; done) | (simp; omega)))⟩

theorem starSettles_any {w : World} (W H : Int) (a : Option Addr) (l : List Int) (c : Nat) (x y tx ty b : Int) (hr : Row16 w a l) (hu : U16s l) :
    Calls Try.prog 3 #[.agg #[.int .i64 W, .int .i64 H, .slice a l.length c], .agg #[.int .i64 x, .int .i64 y, .int .i64 tx, .int .i64 ty, .int .i64 b]] w fun e w' => e = .returned (.bool true) ∧ Ext w w' := by
  by_cases hn : (l.length : Int) ≤ 150
  · by_cases he : lookE W H l.length 0 0 W H x y = 0
    · exact ss_near c x y tx ty b hr hu hn he
    · exact ss_bad c x y tx ty b hr hu hn he
  · exact ss_far W H a l.length c x y tx ty b hn
end Go.Proofs.Ytifbmapianddcaa

/- Arguments that came in as data, opened: structs of numbers by value. -/
namespace Go.Proofs.Ytifbmapianddcaa
open Go.RowKit Go.ChangeShapes Go.WideShapes Go.ChangeAt

section
variable {H : Type} {enc : TypeId × Value → H} {w : World} {r : Reach} {base b0 : Nat} {spare : Nat → Bool} {held : Bool}

theorem InI_wf {n : Int} (h : (Lit.int .i64 n).wf = true) : InI n := by
  have hmin : IntKind.i64.min = -9223372036854775808 := rfl
  have hmax : IntKind.i64.max = 9223372036854775807 := rfl
  simp only [Lit.wf, Bool.and_eq_true, decide_eq_true_eq] at h
  unfold InI; omega

theorem one_int {fuel : Nat} {v : Value} {x : DataW H × List MemPlace} (h : DataW.trod enc Try.prog w base spare held fuel 3 [v] = some x) : ∃ n, v = .int .i64 n ∧ InI n := by
  obtain ⟨n, hc, _, hw⟩ := DataW.trod_int Try.underlying3 h
  simp at hc
  exact ⟨n, hc, InI_wf hw⟩

theorem trod_two {t : TypeId} {f0 f1 : Field} {fuel : Nat} {c0 c1 : Value} {x : DataW H × List MemPlace} (ht : Try.prog.underlying t = some (.struct #[f0, f1])) (e0 : f0.type = 3 ∧ f0.offset = 0) (e1 : f1.type = 3 ∧ f1.offset = 1) (h : DataW.trod enc Try.prog w base spare held fuel t [c0, c1] = some x) :
    ∃ a b, c0 = .int .i64 a ∧ c1 = .int .i64 b ∧ InI a ∧ InI b := by
  obtain ⟨xs, n, _, _, _, hlen, hf⟩ := DataW.trod_struct ht h
  have hc : Try.prog.cellsOf 3 = 1 := by kernel_rfl
  match xs, hlen with
  | [y0, y1], _ =>
    have h0 := hf 0 f0 rfl
    have h1 := hf 1 f1 rfl
    rw [e0.1, e0.2, hc] at h0
    rw [e1.1, e1.2, hc] at h1
    obtain ⟨a, rfl, ha⟩ := one_int h0
    obtain ⟨b, rfl, hb⟩ := one_int h1
    exact ⟨a, b, rfl, rfl, ha, hb⟩

set_option maxRecDepth 100000 in
theorem cells_cell : Try.prog.cellsOf 28 = 2 := by kernel_rfl
set_option maxRecDepth 100000 in
theorem cells_size : Try.prog.cellsOf 23 = 2 := by kernel_rfl

set_option maxRecDepth 100000 in
theorem open_cell {v : Value} {d : DataW H} {p : List MemPlace} (hv : Value.okWide Try.prog w r b0 28 v) (h : DataW.Trod enc Try.prog w base spare held 28 v d p) : ∃ x y, v = .agg #[.int .i64 x, .int .i64 y] ∧ InI x ∧ InI y := by
  obtain ⟨cs, rfl, hsz⟩ := okWide_struct Try.underlying28 hv
  obtain ⟨l⟩ := cs
  rw [cells_cell] at hsz
  match l, hsz with
  | [c0, c1], _ =>
    obtain ⟨fuel, hf⟩ := h
    obtain ⟨a, b, rfl, rfl, ha, hb⟩ := trod_two Try.underlying28 ⟨rfl, rfl⟩ ⟨rfl, rfl⟩ hf
    exact ⟨a, b, rfl, ha, hb⟩

set_option maxRecDepth 100000 in
theorem cells_parts : Try.prog.cellsOf 51 = 3 := by kernel_rfl
set_option maxRecDepth 100000 in
theorem open_parts {v : Value} {d : DataW H} {p : List MemPlace} (hv : Value.okWide Try.prog w r b0 51 v) (h : DataW.Trod enc Try.prog w base spare held 51 v d p) : ∃ x y z, v = .agg #[.int .i64 x, .int .i64 y, .int .i64 z] ∧ InI x ∧ InI y ∧ InI z := by
  obtain ⟨cs, rfl, hsz⟩ := okWide_struct Try.underlying51 hv
  obtain ⟨l⟩ := cs
  rw [cells_parts] at hsz
  match l, hsz with
  | [c0, c1, c2], _ =>
    obtain ⟨fuel, hf⟩ := h
    obtain ⟨xs, n, _, _, _, hlen, hf⟩ := DataW.trod_struct Try.underlying51 hf
    match xs, hlen with
    | [y0, y1], _ =>
      have h0 := hf 0 _ rfl
      have h1 := hf 1 _ rfl
      obtain ⟨a, b, rfl, rfl, ha, hb⟩ := trod_two (c0 := c0) (c1 := c1) Try.underlying23 ⟨rfl, rfl⟩ ⟨rfl, rfl⟩ h0
      obtain ⟨c, rfl, hc⟩ := one_int (v := c2) h1
      exact ⟨a, b, c, rfl, ha, hb, hc⟩
end
theorem own : ownKnob Try.prog.godebug = none := by kernel_rfl
theorem laidOut : laidOutB Try.prog = true := by kernel_rfl
end Go.Proofs.Ytifbmapianddcaa

/- Arguments that came in as data, opened: fields of costs, and arrays of two numbers. -/
namespace Go.Proofs.Ytifbmapianddcaa
open Go.RowKit Go.ChangeShapes Go.WideShapes Go.ChangeAt

section
variable {H : Type} {enc : TypeId × Value → H} {w : World} {r : Reach} {base b0 : Nat} {spare : Nat → Bool} {held : Bool}

/-- What came in as a field. -/
def FieldV (w : World) (W Hh : Int) (a : Option Addr) (l : List Int) : Prop := InI W ∧ InI Hh ∧ (l.length : Int) ≤ 9223372036854775807 ∧ Row16 w a l ∧ U16s l

set_option maxRecDepth 100000 in
theorem cells_field : Try.prog.cellsOf 26 = 3 := by kernel_rfl
set_option maxRecDepth 100000 in
theorem cells_u16 : Try.prog.cellsOf 46 = 1 := by kernel_rfl

theorem row16_of {a : Addr} {len : Nat} {zs : List Int} (hlen : len ≤ zs.length) (hc : ∀ i, i < zs.length → w.cell? (a.add i) = some (.int .u16 (zs.getD i 0))) (hw : ∀ n ∈ zs, (Lit.int .u16 n).wf = true) : (zs.take len).length = len ∧ Row16 w (some a) (zs.take len) ∧ U16s (zs.take len) := by
  have hl : (zs.take len).length = len := by rw [List.length_take]; omega
  refine ⟨hl, fun h0 => ?_, fun x hx => ?_⟩
  · obtain ⟨b, off, spot⟩ := a
    have z0 := hc 0 (by omega)
    have hspot : spot = none := by simpa [Addr.add] using World.cell?_spot z0
    subst hspot
    have z0' : w.cell? ⟨b, off, none⟩ = some (.int .u16 (zs.getD 0 0)) := by simpa [Addr.add] using z0
    refine ⟨b, off, rfl, World.block_lt_of_cell? w _ z0', fun k hk => ?_⟩
    have := hc k (by omega)
    rw [Addr.add_lit] at this
    rw [this]
    have hk' : k < zs.length := by omega
    simp [List.getD_eq_getElem?_getD, hk']
  · have hmem : x ∈ zs := List.mem_of_mem_take hx
    have h := hw x hmem
    have hmin : IntKind.u16.min = 0 := rfl
    have hmax : IntKind.u16.max = 65535 := rfl
    simp only [Lit.wf, Bool.and_eq_true, decide_eq_true_eq] at h
    omega

set_option maxRecDepth 100000 in
theorem open_field {v : Value} {d : DataW H} {p : List MemPlace} (hv : Value.okWide Try.prog w r b0 26 v) (h : DataW.Trod enc Try.prog w base spare held 26 v d p) :
    ∃ W Hh a l c, v = .agg #[.int .i64 W, .int .i64 Hh, .slice a (List.length l) c] ∧ FieldV w W Hh a l := by
  obtain ⟨cs, rfl, hsz⟩ := okWide_struct Try.underlying26 hv
  obtain ⟨l⟩ := cs
  rw [cells_field] at hsz
  match l, hsz with
  | [c0, c1, c2], _ =>
    obtain ⟨fuel, hf⟩ := h
    obtain ⟨xs, n, _, _, _, hlen, hf⟩ := DataW.trod_struct Try.underlying26 hf
    match xs, hlen with
    | [y0, y1], _ =>
      have h0 := hf 0 _ rfl
      have h1 := hf 1 _ rfl
      obtain ⟨a, b, rfl, rfl, ha, hb⟩ := trod_two (c0 := c0) (c1 := c1) Try.underlying23 ⟨rfl, rfl⟩ ⟨rfl, rfl⟩ h0
      have h1' : DataW.trod enc Try.prog w base spare held n 24 [c2] = some y1 := h1
      rcases open_ints Try.underlying24 Try.underlying46 cells_u16 h1' with ⟨hc, _⟩ | ⟨ad, len, cap, zs, hc, _, hl, hm, hz, _, hcell, hwz⟩
      · simp at hc
        subst hc
        exact ⟨a, b, none, [], 0, rfl, ha, hb, by simp, fun h => by simp at h, fun x hx => by simp at hx⟩
      · simp at hc
        subst hc
        have hle : len ≤ zs.length := by rw [hz]; split <;> omega
        obtain ⟨q1, q2, q3⟩ := row16_of hle hcell hwz
        refine ⟨a, b, some ad, zs.take len, cap, by rw [q1], ha, hb, ?_, q2, q3⟩
        rw [q1]; unfold maxLen at hm; omega

end
end Go.Proofs.Ytifbmapianddcaa

/- A box, and a way's two ends, that came in as data. -/
namespace Go.Proofs.Ytifbmapianddcaa
open Go.RowKit Go.ChangeShapes Go.WideShapes Go.ChangeAt
section
variable {H : Type} {enc : TypeId × Value → H} {w : World} {r : Reach} {base b0 : Nat} {spare : Nat → Bool} {held : Bool}

set_option maxRecDepth 100000 in
theorem cells_box : Try.prog.cellsOf 64 = 4 := by kernel_rfl
set_option maxRecDepth 100000 in
theorem open_box {v : Value} {d : DataW H} {p : List MemPlace} (hv : Value.okWide Try.prog w r b0 64 v) (h : DataW.Trod enc Try.prog w base spare held 64 v d p) : ∃ x y z u, v = .agg #[.int .i64 x, .int .i64 y, .int .i64 z, .int .i64 u] ∧ InI x ∧ InI y ∧ InI z ∧ InI u := by
  obtain ⟨cs, rfl, hsz⟩ := okWide_struct Try.underlying64 hv
  obtain ⟨l⟩ := cs
  rw [cells_box] at hsz
  match l, hsz with
  | [c0, c1, c2, c3], _ =>
    obtain ⟨fuel, hf⟩ := h
    obtain ⟨xs, n, _, _, _, hlen, hf⟩ := DataW.trod_struct Try.underlying64 hf
    match xs, hlen with
    | [y0, y1, y2, y3], _ =>
      obtain ⟨a, rfl, ha⟩ := one_int (v := c0) (hf 0 _ rfl)
      obtain ⟨b, rfl, hb⟩ := one_int (v := c1) (hf 1 _ rfl)
      obtain ⟨c, rfl, hc⟩ := one_int (v := c2) (hf 2 _ rfl)
      obtain ⟨e, rfl, he⟩ := one_int (v := c3) (hf 3 _ rfl)
      exact ⟨a, b, c, e, rfl, ha, hb, hc, he⟩

end
end Go.Proofs.Ytifbmapianddcaa

/- What the statements of layer 10 are given, that came in as data. -/
namespace Go.Proofs.Ytifbmapianddcaa
open Go.RowKit Go.ChangeShapes Go.WideShapes Go.ChangeAt
section
variable {H : Type} {enc : TypeId × Value → H} {w : World} {r : Reach} {base b0 : Nat} {spare : Nat → Bool} {held : Bool}

set_option maxRecDepth 100000 in
theorem cells_ends10 : Try.prog.cellsOf 30 = 5 := by kernel_rfl
set_option maxRecDepth 100000 in
theorem open_ends10 {v : Value} {d : DataW H} {p : List MemPlace} (hv : Value.okWide Try.prog w r b0 30 v) (h : DataW.Trod enc Try.prog w base spare held 30 v d p) : ∃ x y z u b, v = .agg #[.int .i64 x, .int .i64 y, .int .i64 z, .int .i64 u, .int .i64 b] ∧ InI x ∧ InI y ∧ InI z ∧ InI u ∧ InI b := by
  obtain ⟨cs, rfl, hsz⟩ := okWide_struct Try.underlying30 hv
  obtain ⟨l⟩ := cs
  rw [cells_ends10] at hsz
  match l, hsz with
  | [c0, c1, c2, c3, c4], _ =>
    obtain ⟨fuel, hf⟩ := h
    obtain ⟨xs, n, _, _, _, hlen, hf⟩ := DataW.trod_struct Try.underlying30 hf
    match xs, hlen with
    | [y0, y1, y2], _ =>
      obtain ⟨a, b, rfl, rfl, ha, hb⟩ := trod_two (c0 := c0) (c1 := c1) Try.underlying28 ⟨rfl, rfl⟩ ⟨rfl, rfl⟩ (hf 0 _ rfl)
      obtain ⟨c, e, rfl, rfl, hc, he⟩ := trod_two (c0 := c2) (c1 := c3) Try.underlying28 ⟨rfl, rfl⟩ ⟨rfl, rfl⟩ (hf 1 _ rfl)
      obtain ⟨g, rfl, hg⟩ := one_int (v := c4) (hf 2 _ rfl)
      exact ⟨a, b, c, e, g, rfl, ha, hb, hc, he, hg⟩

end
end Go.Proofs.Ytifbmapianddcaa

/- The law StarSettles, as it is said. -/
namespace Go.Proofs.Ytifbmapianddcaa
open Go.RowKit Go.ChangeShapes Go.WideShapes Go.ChangeAt

set_option maxRecDepth 100000 in
theorem starSettles_lifted (os : Os) (started : os.Started) (H : Type) (enc : TypeId × Value → H) :
    ReturnsInHanded {} Try.checked os 3 .any (Rows.starSettlesSpec.pre6 enc Try.prog Try.f3 Rows.starSettlesRow.domain false) (Rows.starSettlesSpec.post enc Try.prog Try.f3 false true false false) := by
  refine returnsInHanded_of_change (C := Try.checked) own started (by kernel_rfl) Try.func3
    (ChangeSpec.witness6 (enc := enc) (C := Try.checked) false ⟨#[], #[.agg #[.int .i64 0, .int .i64 0, .slice none 0 0], .agg #[.int .i64 0, .int .i64 0, .int .i64 0, .int .i64 0, .int .i64 0]], []⟩ 8 (by kernel_rfl) (by kernel_rfl) (by kernel_rfl) (by kernel_rfl)) ?_
  intro W base args ds gs before hval0 hW hcnd hsz
  have hval : ∀ (j : Nat) t v, Try.f3.params[j]? = some t → args[j]? = some v → Value.okWide Try.prog W .any base t v := hval0
  have hW' := hW
  obtain ⟨p, q, hA0, hV, rfl, hfz, hnd⟩ := hW
  have hA : DataW.TrodAll enc Try.prog W 0 (fun _ => true) true Try.f3.params.toList args.toList ds p := hA0
  rw [Try.params3] at hA hval
  obtain ⟨v0, vs0, d0, ds0, p0, q0, hargs, rfl, rfl, h0, r0⟩ := trodAll_cons hA
  obtain ⟨v1, vs1, d1, ds1, p1, q1, rfl, rfl, rfl, h1, r1⟩ := trodAll_cons r0
  obtain ⟨rfl, rfl, rfl⟩ := trodAll_nil r1
  obtain rfl : args = #[v0, v1] := by cases args; simp_all
  obtain ⟨rfl, rfl⟩ := trodVars_none hV
  have k0 := h0
  have lt0 : ∀ x ∈ p0, x.block < W.heap.size := by obtain ⟨m, hm⟩ := k0; exact DataW.trod_lt m _ _ _ hm
  have k1 := h1
  have lt1 : ∀ x ∈ p1, x.block < W.heap.size := by obtain ⟨m, hm⟩ := k1; exact DataW.trod_lt m _ _ _ hm
  obtain ⟨W0, H0, a0, l0, c0, rfl, fv0⟩ := open_field (hval 0 26 v0 rfl rfl) h0
  obtain ⟨fx1, fy1, tx1, ty1, bu1, rfl, ie1⟩ := open_ends10 (hval 1 30 v1 rfl rfl) h1
  clear hA0 hval0
  refine (starSettles_any W0 H0 a0 l0 c0 fx1 fy1 tx1 ty1 bu1 fv0.2.2.2.1 fv0.2.2.2.2).mono fun e W' ⟨he, bel⟩ => ?_
  subst he
  exact ⟨_, rfl, _, _, _, [], _, [], hW', trodAll_mk1 (shut_bool Try.underlying4 _), (trodAll_cons_mk (Below.trod laidOut (by kernel_rfl) (of_decide_eq_true (by kernel_rfl)) k0 bel lt0) (trodAll_cons_mk (Below.trod laidOut (by kernel_rfl) (of_decide_eq_true (by kernel_rfl)) k1 bel lt1) trodAll_mk0)), rfl, Below.frame bel _, fun h => by cases h⟩

theorem starSettles_holds : Rows.StarSettlesSaid :=
  OpenClaim.holds_of_wide 3 Try.f3 rfl rfl rfl rfl rfl rfl rfl ⟨rfl, rfl, rfl, rfl, rfl⟩ rfl rfl rfl rfl rfl (by kernel_rfl) Try.func3 (by kernel_rfl)
    (of_decide_eq_true (by kernel_rfl)) (by unfold Func.isWrapper; first | (rw [if_pos (by decide +kernel)]; kernel_rfl) | (rw [if_neg (by decide +kernel)]; exact ⟨rfl, rfl⟩))
    (fun os started H enc _ => starSettles_lifted os started H enc)
#print axioms starSettles_holds
end Go.Proofs.Ytifbmapianddcaa
