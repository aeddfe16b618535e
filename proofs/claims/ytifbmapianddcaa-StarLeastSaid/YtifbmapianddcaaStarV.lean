/- How many cells a search settles, and its path in plain words. -/
import Derived.Test.YtifbmapianddcaaStarR
set_option linter.all false
set_option linter.unusedVariables false
set_option linter.unusedSimpArgs false
namespace Go.Proofs.Ytifbmapianddcaa

theorem count_le {α : Type} {p q : α → Bool} : ∀ {l : List α}, (∀ a ∈ l, p a = true → q a = true) → l.countP p ≤ l.countP q
  | [], _ => Nat.le_refl _
  | a :: l, h => by
    rw [List.countP_cons, List.countP_cons]
    have h1 := count_le (l := l) (p := p) (q := q) (fun b hb => h b (List.mem_cons_of_mem _ hb))
    by_cases hp : p a = true
    · rw [if_pos hp, if_pos (h a List.mem_cons_self hp)]; omega
    · rw [if_neg hp]; omega
theorem count_same {α : Type} {p q : α → Bool} {l : List α} (h : ∀ a ∈ l, p a = q a) : l.countP p = l.countP q :=
  Nat.le_antisymm (count_le fun a ha hp => by rw [← h a ha]; exact hp) (count_le fun a ha hp => by rw [h a ha]; exact hp)

section
variable {G : Net} {D : Nat → Int} {s : Nat} {A : AS}
theorem SInv.set_lt (I : SInv G D s A (fun _ _ => False)) (hn : G.n ≤ 1000000) {v : Nat} (h : A.st v = 2) : D v < infI := by
  have h1 := I.bd v (by omega)
  have h2 := I.opt v h
  have h3 := I.few
  have : infI = 18446744073709551615 := rfl
  omega
end

/-- What is settled, once the end is found. -/
theorem run_settles {G : Net} {W : Int} {h : Nat → Int} {t s : Nat} {b : Int} {A : AS} {D : Nat → Int} {p : List Nat} {c k e : Int} (r : ARun G W h t b A p c k e) (I : SInv G D s A (fun _ _ => False)) (F : IsFar G s D) (hn : G.n ≤ 1000000) (hg : Guess G h) (hadj : ∀ v m, m ∈ G.adj v → G.op m = true) (ht : A.st t ≠ 2) (h0 : h t = 0) (hD : D t < infI)
    (hS : ∀ v, A.st v = 2 → D v + h v ≤ D t) (he : e = 0) :
    (((List.range G.n).countP (fun v => decide (D v < infI ∧ D v + h v < D t)) : Nat) : Int) ≤ k ∧ k ≤ (((List.range G.n).countP (fun v => decide (D v < infI ∧ D v + h v ≤ D t)) : Nat) : Int) := by
  induction r with
  | none _ => cases he
  | full _ _ _ => cases he
  | found hB hb hc =>
    rename_i A l
    have hcnt := I.cnt
    have hgt := sinv_best I F hn hg hB
    have htn := G.lt t (I.op t (by have := hB.1; omega))
    constructor
    · have h1 := count_le (l := List.range G.n) (p := fun v => decide (D v < infI ∧ D v + h v < D t)) (q := fun v => decide (A.st v = 2)) (fun v _ hv => by
        simp only [decide_eq_true_eq] at hv ⊢
        apply Classical.byContradiction
        intro hne
        obtain ⟨x, x1, x2, x3⟩ := sinv_wit I F hg (D v).toNat v (by have := F.nn v; omega) hv.1 hne
        have := best_le hB x1
        omega)
      omega
    · have h1 := count_lt2 (l := List.range G.n) (p := fun v => decide (A.st v = 2)) (q := fun v => decide (D v < infI ∧ D v + h v ≤ D t)) (fun v _ hv => by
        simp only [decide_eq_true_eq] at hv ⊢
        exact ⟨I.set_lt hn hv, hS v hv⟩) ⟨t, List.mem_range.2 htn, by simp only [decide_eq_true_eq]; omega, by simp only [decide_eq_false_iff_not]; exact ht⟩
      omega
  | next hB hb hv r ih =>
    rename_i A v p c k e
    refine ih (sinv_step I F hn hg hadj hB) (fun h2 => ?_) (fun u hu => ?_) he
    · rcases (stepA_st G A v t).2.1 h2 with k | k
      · exact hv k.symm
      · exact ht k
    · rcases (stepA_st G A v u).2.1 hu with k | k
      · subst k
        obtain ⟨x, x1, x2, x3⟩ := sinv_wit I F hg (D t).toNat t (by have := F.nn t; omega) hD ht
        have := best_le hB x1
        have := (sinv_best I F hn hg hB).1
        omega
      · exact hS u k

/-- What is settled, if there is no way. -/
theorem run_all {G : Net} {W : Int} {h : Nat → Int} {t s : Nat} {b : Int} {A : AS} {D : Nat → Int} {p : List Nat} {c k e : Int} (r : ARun G W h t b A p c k e) (I : SInv G D s A (fun _ _ => False)) (F : IsFar G s D) (hn : G.n ≤ 1000000) (hg : Guess G h) (hadj : ∀ v m, m ∈ G.adj v → G.op m = true) (he : e = 22) :
    k = (((List.range G.n).countP (fun v => decide (D v < infI)) : Nat) : Int) := by
  induction r with
  | none h0 =>
    have hcnt := I.cnt
    rw [← hcnt]
    congr 1
    exact count_same fun v _ => by
      rw [Bool.eq_iff_iff]
      simp only [decide_eq_true_eq]
      exact ⟨fun h => I.set_lt hn h, fun h => sinv_end I F h0 h⟩
  | full _ _ _ => cases he
  | found _ _ _ => cases he
  | next hB hb hv r ih => exact ih (sinv_step I F hn hg hadj hB) he

/-- A path in a net: from cell to cell beside. -/
inductive PathN (G : Net) : List Nat → Prop where
  | one {v : Nat} : G.op v = true → PathN G [v]
  | more {u v : Nat} {l : List Nat} : G.op u = true → v ∈ G.adj u → PathN G (v :: l) → PathN G (u :: v :: l)
def costN (G : Net) (l : List Nat) : Int := (l.tail.map G.cost).sum

theorem PathN.snoc {G : Net} {l : List Nat} {u v : Nat} (h : PathN G (l ++ [u])) (hv : G.op v = true) (ha : v ∈ G.adj u) : PathN G (l ++ [u] ++ [v]) := by
  induction l with
  | nil =>
    cases h with
    | one ho => exact .more ho ha (.one hv)
  | cons a l ih =>
    cases l with
    | nil =>
      cases h with
      | more ho hb h => exact .more ho hb (ih h)
    | cons b l =>
      cases h with
      | more ho hb h => exact .more ho hb (ih h)
theorem sum_snoc (l : List Int) (x : Int) : (l ++ [x]).sum = l.sum + x := by
  induction l with
  | nil => simp
  | cons a l ih => simp only [List.cons_append, List.sum_cons, ih]; omega

/-- What a path is that was found. -/
structure Told (G : Net) (s t : Nat) (p : List Nat) (c k : Int) : Prop where
  path : PathN G p
  head : p.head? = some s
  last : p.getLast? = some t
  cost : c = costN G p
  few : (p.length : Int) ≤ k

section
variable {G : Net} {D : Nat → Int} {s : Nat} {A : AS}
theorem chain_told (I : SInv G D s A (fun _ _ => False)) {v : Nat} {l : List Nat} (hc : Chain A.came v l) : A.st v ≠ 0 → PathN G l.reverse ∧ l.reverse.head? = some s ∧ l.reverse.getLast? = some v ∧ A.g v = costN G l.reverse := by
  induction hc with
  | stop h0 =>
    rename_i v
    intro hv
    have e : v = s := by
      apply Classical.byContradiction
      intro e
      obtain ⟨u, hu, _⟩ := I.back v hv e
      omega
    subst e
    exact ⟨.one (I.op v hv), rfl, rfl, by rw [I.sg]; rfl⟩
  | go h0 hcc ih =>
    rename_i v u l
    intro hv
    have e : v ≠ s := fun e => by subst e; have := I.sc; omega
    obtain ⟨u', hu, k1, k2, k3⟩ := I.back v hv e
    have : u' = u := by omega
    subst this
    obtain ⟨i1, i2, i3, i4⟩ := ih (by omega)
    obtain ⟨l', hl'⟩ : ∃ l', l.reverse = l' ++ [u'] := by
      cases hcc with
      | stop _ => exact ⟨[], rfl⟩
      | go _ _ => exact ⟨_, List.reverse_cons ..⟩
    have hne : l.reverse ≠ [] := by rw [hl']; simp
    rw [List.reverse_cons]
    refine ⟨?_, ?_, ?_, ?_⟩
    · rw [hl'] at i1 ⊢; exact i1.snoc (I.op v hv) k2
    · cases hr : l.reverse with
      | nil => exact absurd hr hne
      | cons a r => rw [hr] at i2; exact i2
    · simp
    · unfold costN at i4 ⊢
      rw [k3, i4]
      cases hr : l.reverse with
      | nil => exact absurd hr hne
      | cons a r =>
        simp only [List.cons_append, List.tail_cons, List.map_append, List.map_cons, List.map_nil]
        rw [sum_snoc]
end

theorem run_told {G : Net} {W : Int} {h : Nat → Int} {t s : Nat} {b : Int} {A : AS} {D : Nat → Int} {p : List Nat} {c k e : Int} (r : ARun G W h t b A p c k e) (I : SInv G D s A (fun _ _ => False)) (F : IsFar G s D) (hn : G.n ≤ 1000000) (hg : Guess G h) (hadj : ∀ v m, m ∈ G.adj v → G.op m = true) (ht : A.st t ≠ 2) (he : e = 0) : Told G s t p c k := by
  induction r with
  | none _ => cases he
  | full _ _ _ => cases he
  | found hB hb hc =>
    rename_i A l
    have hst := hB.1
    obtain ⟨a1, a2, a3, a4⟩ := chain_told I hc (by omega)
    refine ⟨a1, a2, a3, a4, ?_⟩
    have hbest := sinv_best I F hn hg hB
    have h0 := F.nn t
    obtain ⟨l2, c1, c2, c3⟩ := chain_ex I (A.g t).toNat t (by omega) (by omega)
    have := hc.one c1
    subst this
    -- all but the end are settled
    have hset : ∀ u, u ∈ l → u ≠ t → A.st u = 2 := by
      clear c1 c2 c3 a1 a2 a3 a4 hbest h0
      have hgen : ∀ (v : Nat) (l : List Nat), Chain A.came v l → A.st v ≠ 0 → ∀ u, u ∈ l → u ≠ v → A.st u = 2 := by
        intro v l hcc
        induction hcc with
        | stop _ => intro _ u hu hne; rcases List.mem_cons.1 hu with h | h; exact absurd h hne; cases h
        | go h0 hcc ih =>
          rename_i v u l
          intro hv x hx hne
          have e : v ≠ s := fun e => by subst e; have := I.sc; omega
          obtain ⟨u', hu, k1, k2, k3⟩ := I.back v hv e
          have : u' = u := by omega
          subst this
          rcases List.mem_cons.1 hx with h | h
          · exact absurd h hne
          · by_cases hxu : x = u'
            · rw [hxu]; exact k1
            · exact ih (by omega) x h hxu
      exact hgen t l hc (by omega)
    have hcnt := I.cnt
    rw [List.length_reverse]
    have hlen : l.length ≤ (List.range G.n).countP (fun v => decide (A.st v = 2 ∨ v = t)) := by
      have h1 : ∀ u, u ∈ l → u ∈ (List.range G.n).filter (fun v => decide (A.st v = 2 ∨ v = t)) := fun u hu => by
        rw [List.mem_filter]
        refine ⟨List.mem_range.2 (G.lt u (I.op u (c2 u hu).1)), ?_⟩
        simp only [decide_eq_true_eq]
        by_cases e : u = t
        · exact .inr e
        · exact .inl (hset u hu e)
      have h2 := List.Nodup.length_le_of_subset c3 h1
      rw [List.countP_eq_length_filter]
      exact h2
    have hone : (List.range G.n).countP (fun v => decide (A.st v = 2 ∨ v = t)) ≤ (List.range G.n).countP (fun v => decide (A.st v = 2)) + 1 := by
      have : ∀ n, (List.range n).countP (fun v => decide (A.st v = 2 ∨ v = t)) ≤ (List.range n).countP (fun v => decide (A.st v = 2)) + (if t < n then 1 else 0) := by
        intro n
        induction n with
        | zero => simp
        | succ n ih =>
          rw [List.range_succ, List.countP_append, List.countP_append]
          have e1 : List.countP (fun v => decide (A.st v = 2 ∨ v = t)) [n] = if A.st n = 2 ∨ n = t then 1 else 0 := by rw [List.countP_cons]; simp
          have e2 : List.countP (fun v => decide (A.st v = 2)) [n] = if A.st n = 2 then 1 else 0 := by rw [List.countP_cons]; simp
          rw [e1, e2]
          by_cases h1 : n = t
          · subst h1
            simp only [Nat.lt_irrefl, if_false] at ih
            rw [if_pos (.inr rfl), if_pos (Nat.lt_succ_self _)]
            omega
          · have e3 : (if t < n + 1 then 1 else 0) = if t < n then 1 else 0 := by
              by_cases h2 : t < n
              · rw [if_pos h2, if_pos (by omega)]
              · rw [if_neg h2, if_neg (by omega)]
            rw [e3]
            by_cases h2 : A.st n = 2
            · rw [if_pos (.inl h2), if_pos h2]; omega
            · rw [if_neg (fun h => h.elim h2 h1), if_neg h2]; omega
      have := this G.n
      split at this <;> omega
    omega
  | next hB hb hv r ih =>
    rename_i A v p c k e
    refine ih (sinv_step I F hn hg hadj hB) (fun h2 => ?_) he
    rcases (stepA_st G A v t).2.1 h2 with k | k
    · exact hv k.symm
    · exact ht k
theorem hT_self (W : Int) (t : Nat) : hT W t t = 0 := by
  unfold hT manh
  rw [Int.sub_self, Int.sub_self]
  rfl
theorem start_t (s t : Nat) : (start0 s).st t ≠ 2 := by
  show updN (fun _ => 0) s 1 t ≠ 2
  unfold updN
  split <;> simp

theorem srch_settles {W H : Int} {l : List Int} {x y tx ty : Int} {p : List Nat} {c k : Int} (L : LandP W H l 0 0 W H) (h : Srch W H l x y tx ty l.length p c k 0) {D : Nat → Int} (F : IsFar (mapNet L) (idxN W (x, y)) D) :
    c = D (idxN W (tx, ty)) ∧ inB W H tx ty = true ∧
    (((List.range l.length).countP (fun v => decide (D v < infI ∧ D v + hT W (idxN W (tx, ty)) v < c)) : Nat) : Int) ≤ k ∧ k ≤ (((List.range l.length).countP (fun v => decide (D v < infI ∧ D v + hT W (idxN W (tx, ty)) v ≤ c)) : Nat) : Int) := by
  rcases h with ⟨n1, _, _, _, he⟩ | ⟨n1, L', s⟩
  · exact absurd he.symm n1
  · obtain ⟨a1, a2, a3, a4⟩ := findE_ok.1 n1
    have N := netOk L (idxN W (tx, ty))
    have hE := (s.ends N F).2.2
    rcases hE with ⟨_, o1, f⟩ | ⟨he, _⟩ | ⟨he, _⟩
    · rcases s with ⟨_, o2, r⟩ | s
      · have hc := f.cost
        have hs := run_settles r (sinv_start o1 F) F N.few N.guess N.adj (start_t _ _) (hT_self _ _) f.fin (fun v hv => absurd hv (start_t _ _)) rfl
        rw [← hc] at hs
        exact ⟨hc, a3, hs.1, hs.2⟩
      · exact absurd s.2.2.2.2 (by decide)
    · cases he
    · cases he

theorem far_shut {G : Net} {s : Nat} {D : Nat → Int} (F : IsFar G s D) (h : G.op s ≠ true) (v : Nat) : ¬ D v < infI := fun hv => h (F.way_of hv).ends.1

theorem srch_least {W H : Int} {l : List Int} {x y tx ty : Int} {p : List Nat} {c k e : Int} (L : LandP W H l 0 0 W H) (hin : inB W H x y = true ∧ inB W H tx ty = true) (h : Srch W H l x y tx ty l.length p c k e) {D : Nat → Int} (F : IsFar (mapNet L) (idxN W (x, y)) D) :
    (e = 0 ∧ c = D (idxN W (tx, ty)) ∧ D (idxN W (tx, ty)) < infI ∧ Told (mapNet L) (idxN W (x, y)) (idxN W (tx, ty)) p c k ∧ k ≤ l.length) ∨
    (e = 22 ∧ D (idxN W (tx, ty)) = infI ∧ p = [] ∧ c = 0 ∧ k = (((List.range l.length).countP (fun v => decide (D v < infI ∧ l.getD (idxN W (tx, ty)) 0 ≠ 0)) : Nat) : Int)) := by
  have hck : checkE W H l.length = 0 := checkE_ok.2 ⟨L.may, L.len⟩
  have hf : findE W H l.length x y tx ty (l.length : Nat) = 0 := findE_ok.2 ⟨hck, hin.1, hin.2, by omega⟩
  rcases h with ⟨n1, _⟩ | ⟨_, L', s⟩
  · exact absurd hf n1
  · have N := netOk L (idxN W (tx, ty))
    have hE := s.ends N F
    rcases hE.2.2 with ⟨rfl, o1, f⟩ | ⟨rfl, hp, hc, hw⟩ | ⟨_, _, _, _, hlt⟩
    · rcases s with ⟨_, o2, r⟩ | s
      · exact .inl ⟨rfl, f.cost, f.fin, run_told r (sinv_start o1 F) F N.few N.guess N.adj (start_t _ _) rfl, hE.2.1⟩
      · exact absurd s.2.2.2.2 (by decide)
    · right
      have hDt : D (idxN W (tx, ty)) = infI := by
        rcases hw with hw | hw
        · apply Classical.byContradiction
          intro hne
          have hlt : D (idxN W (tx, ty)) < infI := by have := F.le (idxN W (tx, ty)); omega
          have he := (F.way_of hlt).ends
          exact hw ⟨he.1, he.2.1⟩
        · exact hw.2
      refine ⟨rfl, hDt, hp, hc, ?_⟩
      rcases s with ⟨o1, o2, r⟩ | ⟨hno, _, _, rfl, _⟩
      · rw [run_all r (sinv_start o1 F) F N.few N.guess N.adj rfl]
        congr 1
        refine count_same fun v _ => ?_
        have hpos := ((op_iff L _).1 o2).2
        rw [Bool.eq_iff_iff]
        simp only [decide_eq_true_eq]
        exact ⟨fun h => ⟨h, by omega⟩, fun h => h.1⟩
      · by_cases o1 : (mapNet L).op (idxN W (x, y)) = true
        · have ht : ¬ (mapNet L).op (idxN W (tx, ty)) = true := fun h => hno ⟨o1, h⟩
          have i2 := inB_true.1 hin.2
          have htn := L.idx_lt (x := tx) (y := ty) (by omega)
          have h0 : l.getD (idxN W (tx, ty)) 0 = 0 := by
            have := (costI_bd L.u16 W (tx, ty)).1
            rw [cost_idx] at this
            have : ¬ 0 < l.getD (idxN W (tx, ty)) 0 := fun h => ht ((op_iff L _).2 ⟨htn, h⟩)
            omega
          rw [List.countP_eq_zero.2 (fun v _ => by simp only [decide_eq_true_eq]; exact fun h => h.2 h0)]
          rfl
        · rw [List.countP_eq_zero.2 (fun v _ => by simp only [decide_eq_true_eq]; exact fun h => far_shut F o1 v h.1)]
          rfl
    · exfalso
      have : (mapNet L).n = l.length := rfl
      omega
end Go.Proofs.Ytifbmapianddcaa
