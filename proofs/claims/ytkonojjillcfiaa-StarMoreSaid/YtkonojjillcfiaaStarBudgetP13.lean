/- Part 13 of 14 of the proof of StarBudget. -/
import Derived.Test.YtkonojjillcfiaaStarBudgetP12
import Derived.Test.YtkonojjillcfiaaStarBudgetP11
import Derived.Test.YtkonojjillcfiaaStarBudgetP10
import Derived.Test.YtkonojjillcfiaaStarBudgetP01
set_option linter.all false
set_option linter.unusedVariables false
set_option linter.unusedSimpArgs false
/- The reference's way of finding how far all are (rounds of sweeps), in plain words: what a round does, and that after as many rounds as there are places all is right. -/
namespace Go.Proofs.Ytkonojjillcfiaa

section
variable (l : List Int) (W bx byy bw bh : Int)

def relD (far : Nat → Int) (x y : Int) (k : Nat) : Nat → Int :=
  if hasB bx byy bw bh (x + dirX k) (y + dirY k) = true ∧ far (idxN W (x + dirX k, y + dirY k)) ≠ infI ∧ far (idxN W (x + dirX k, y + dirY k)) + costI l W (x, y) < far (idxN W (x, y)) then
    updF far (idxN W (x, y)) (far (idxN W (x + dirX k, y + dirY k)) + costI l W (x, y)) else far
def relC (far : Nat → Int) (x y : Int) : Nat → Nat → Int
  | 0 => far
  | k + 1 => relD l W bx byy bw bh (relC far x y k) x y k
def relCell (far : Nat → Int) (x y : Int) : Nat → Int := if costI l W (x, y) = 0 then far else relC l W bx byy bw bh far x y 4
def relR (far : Nat → Int) (y : Int) : Nat → Nat → Int
  | 0 => far
  | m + 1 => relCell l W bx byy bw bh (relR far y m) (bx + m) y
def relB (far : Nat → Int) : Nat → Nat → Int
  | 0 => far
  | m + 1 => relR l W bx byy bw bh (relB far m) (byy + m) bw.toNat
end

section
variable {l : List Int} {W H bx byy bw bh : Int}

theorem relD_le (far : Nat → Int) (x y : Int) (k v : Nat) : relD l W bx byy bw bh far x y k v ≤ far v := by
  unfold relD
  split
  · next h =>
    unfold updF
    split
    · next e => subst e; omega
    · exact Int.le_refl _
  · exact Int.le_refl _
theorem relC_le (far : Nat → Int) (x y : Int) (v : Nat) : ∀ k, relC l W bx byy bw bh far x y k v ≤ far v
  | 0 => Int.le_refl _
  | k + 1 => Int.le_trans (relD_le _ x y k v) (relC_le far x y v k)
theorem relCell_le (far : Nat → Int) (x y : Int) (v : Nat) : relCell l W bx byy bw bh far x y v ≤ far v := by
  unfold relCell
  split
  · exact Int.le_refl _
  · exact relC_le far x y v 4
theorem relR_le (far : Nat → Int) (y : Int) (v : Nat) : ∀ m, relR l W bx byy bw bh far y m v ≤ far v
  | 0 => Int.le_refl _
  | m + 1 => Int.le_trans (relCell_le _ _ y v) (relR_le far y v m)
theorem relB_le (far : Nat → Int) (v : Nat) : ∀ m, relB l W bx byy bw bh far m v ≤ far v
  | 0 => Int.le_refl _
  | m + 1 => Int.le_trans (relR_le _ _ v _) (relB_le far v m)

/-- None is less than it should be. -/
def LowB (D far : Nat → Int) : Prop := ∀ v, D v ≤ far v

theorem relD_low (L : LandP W H l bx byy bw bh) {s : Nat} {D : Nat → Int} (F : IsFar (mapNet L) s D) {far : Nat → Int} (h : LowB D far) {x y : Int} (hb : hasB bx byy bw bh x y = true) (h0 : 0 < costI l W (x, y)) {k : Nat} (hk : k < 4) (hle : ∀ v, far v ≤ infI) : LowB D (relD l W bx byy bw bh far x y k) := by
  intro v
  unfold relD
  split
  · next hc =>
    unfold updF
    split
    · next e =>
      subst e
      obtain ⟨c1, c2, c3⟩ := hc
      have hin := L.in_ hb
      have huI := L.in_ c1
      have ho : openB l W bx byy bw bh x y = true := by unfold openB; rw [hb, decide_eq_true h0]; rfl
      have hov : (mapNet L).op (idxN W (x, y)) = true := by
        show opV _ _ _ _ = true
        rw [L.opV_idx hin]; exact ho
      have hu := h (idxN W (x + dirX k, y + dirY k))
      have hfu := hle (idxN W (x + dirX k, y + dirY k))
      have hfv := hle (idxN W (x, y))
      have hou := F.open_ (v := idxN W (x + dirX k, y + dirY k)) (by omega)
      have hco : (mapNet L).cost (idxN W (x, y)) = costI l W (x, y) := rfl
      by_cases hs : idxN W (x, y) = s
      · rw [← hs] at F
        rw [F.start hov]
        have := F.nn (idxN W (x + dirX k, y + dirY k))
        omega
      · have hadj : idxN W (x + dirX k, y + dirY k) ∈ (mapNet L).adj (idxN W (x, y)) := by
          refine List.mem_map.2 ⟨(x + dirX k, y + dirY k), ?_, rfl⟩
          rw [vx_idx hin.1 hin.2.1 hin.2.2.1, vy_idx hin.1 hin.2.1 hin.2.2.1]
          refine mem_nbC.2 ⟨k, hk, ?_, rfl⟩
          have : opV (openB l W bx byy bw bh) W l.length (idxN W (x + dirX k, y + dirY k)) = true := hou
          rw [L.opV_idx huI] at this
          exact this
        have := F.near _ hov hs _ hadj hou (by rw [hco]; omega)
        rw [hco] at this
        omega
    · exact h v
  · exact h v
theorem relC_low (L : LandP W H l bx byy bw bh) {s : Nat} {D : Nat → Int} (F : IsFar (mapNet L) s D) {far : Nat → Int} (h : LowB D far) {x y : Int} (hb : hasB bx byy bw bh x y = true) (h0 : 0 < costI l W (x, y)) (hle : ∀ v, far v ≤ infI) : ∀ k, k ≤ 4 → LowB D (relC l W bx byy bw bh far x y k)
  | 0, _ => h
  | k + 1, hk => relD_low L F (relC_low L F h hb h0 hle k (by omega)) hb h0 (by omega) (fun v => Int.le_trans (relC_le far x y v k) (hle v))
theorem relCell_low (L : LandP W H l bx byy bw bh) {s : Nat} {D : Nat → Int} (F : IsFar (mapNet L) s D) {far : Nat → Int} (h : LowB D far) {x y : Int} (hb : hasB bx byy bw bh x y = true) (hle : ∀ v, far v ≤ infI) : LowB D (relCell l W bx byy bw bh far x y) := by
  unfold relCell
  split
  · exact h
  · have := (costI_bd L.u16 W (x, y)).1
    exact relC_low L F h hb (by omega) hle 4 (Nat.le_refl _)
theorem box_has {m j : Nat} (hm : (m : Int) < bw) (hj : (j : Int) < bh) : hasB bx byy bw bh (bx + m) (byy + j) = true := hasB_true.2 (by omega)
theorem relR_low (L : LandP W H l bx byy bw bh) {s : Nat} {D : Nat → Int} (F : IsFar (mapNet L) s D) {far : Nat → Int} (h : LowB D far) {j : Nat} (hj : (j : Int) < bh) (hle : ∀ v, far v ≤ infI) : ∀ m : Nat, (m : Int) ≤ bw → LowB D (relR l W bx byy bw bh far (byy + j) m)
  | 0, _ => h
  | m + 1, hm => relCell_low L F (relR_low L F h hj hle m (by omega)) (box_has (by omega) hj) (fun v => Int.le_trans (relR_le far _ v m) (hle v))
theorem relB_low (L : LandP W H l bx byy bw bh) {s : Nat} {D : Nat → Int} (F : IsFar (mapNet L) s D) {far : Nat → Int} (h : LowB D far) (hle : ∀ v, far v ≤ infI) : ∀ m : Nat, (m : Int) ≤ bh → LowB D (relB l W bx byy bw bh far m)
  | 0, _ => h
  | m + 1, hm => relR_low L F (relB_low L F h hle m (by omega)) (by omega) (fun v => Int.le_trans (relB_le far v m) (hle v)) _ (by have := (fitsR_true.1 L.fits); omega)

/-- Behind a cell's turn it is no further than by way of each cell beside it. -/
theorem relC_near (far : Nat → Int) (x y : Int) {k : Nat} (hb : hasB bx byy bw bh (x + dirX k) (y + dirY k) = true) (hu : far (idxN W (x + dirX k, y + dirY k)) < infI) : ∀ n, k < n → relC l W bx byy bw bh far x y n (idxN W (x, y)) ≤ far (idxN W (x + dirX k, y + dirY k)) + costI l W (x, y)
  | n + 1, hk => by
    by_cases e : k = n
    · subst e
      have h1 := relC_le (l := l) (W := W) (bx := bx) (byy := byy) (bw := bw) (bh := bh) far x y (idxN W (x + dirX k, y + dirY k)) k
      show relD l W bx byy bw bh (relC l W bx byy bw bh far x y k) x y k _ ≤ _
      unfold relD
      split
      · rw [updF_same]; omega
      · next hn =>
        have : ¬ (relC l W bx byy bw bh far x y k (idxN W (x + dirX k, y + dirY k)) + costI l W (x, y) < relC l W bx byy bw bh far x y k (idxN W (x, y))) := fun hlt => hn ⟨hb, by omega, hlt⟩
        omega
    · exact Int.le_trans (relD_le _ x y n _) (relC_near far x y hb hu n (by omega))
theorem relR_near (far : Nat → Int) (y : Int) {j k : Nat} (hk : k < 4) (hc : costI l W (bx + j, y) ≠ 0) (hb : hasB bx byy bw bh (bx + j + dirX k) (y + dirY k) = true) (hu : far (idxN W (bx + j + dirX k, y + dirY k)) < infI) : ∀ m, j < m → relR l W bx byy bw bh far y m (idxN W (bx + j, y)) ≤ far (idxN W (bx + j + dirX k, y + dirY k)) + costI l W (bx + j, y)
  | m + 1, hm => by
    by_cases e : j = m
    · subst e
      have h1 := relR_le (l := l) (W := W) (bx := bx) (byy := byy) (bw := bw) (bh := bh) far y (idxN W (bx + j + dirX k, y + dirY k)) j
      show relCell l W bx byy bw bh (relR l W bx byy bw bh far y j) (bx + j) y _ ≤ _
      unfold relCell
      rw [if_neg hc]
      exact Int.le_trans (relC_near _ _ _ hb (by omega) 4 hk) (by omega)
    · exact Int.le_trans (relCell_le _ _ y _) (relR_near far y hk hc hb hu m (by omega))
theorem relB_near (far : Nat → Int) {i j k : Nat} (hk : k < 4) (hi : (i : Int) < bw) (hc : costI l W (bx + i, byy + j) ≠ 0) (hb : hasB bx byy bw bh (bx + i + dirX k) (byy + j + dirY k) = true) (hu : far (idxN W (bx + i + dirX k, byy + j + dirY k)) < infI) : ∀ m, j < m → relB l W bx byy bw bh far m (idxN W (bx + i, byy + j)) ≤ far (idxN W (bx + i + dirX k, byy + j + dirY k)) + costI l W (bx + i, byy + j)
  | m + 1, hm => by
    by_cases e : j = m
    · subst e
      have h1 := relB_le (l := l) (W := W) (bx := bx) (byy := byy) (bw := bw) (bh := bh) far (idxN W (bx + i + dirX k, byy + j + dirY k)) j
      exact Int.le_trans (relR_near _ _ hk hc hb (by omega) bw.toNat (by omega)) (by omega)
    · exact Int.le_trans (relR_le _ _ _ _) (relB_near far hk hi hc hb hu m (by omega))

/-- A whole round. -/
def rnd (l : List Int) (W bx byy bw bh : Int) (far : Nat → Int) : Nat → Int := relB l W bx byy bw bh far bh.toNat

theorem rnd_near (L : LandP W H l bx byy bw bh) (far : Nat → Int) {u v : Nat} (hv : (mapNet L).op v = true) (hu : u ∈ (mapNet L).adj v) (hf : far u < infI) : rnd l W bx byy bw bh far v ≤ far u + (mapNet L).cost v := by
  obtain ⟨p, hp, rfl⟩ := List.mem_map.1 hu
  obtain ⟨k, hk, ho, rfl⟩ := mem_nbC.1 hp
  have hvl := (mapNet L).lt v hv
  have hv' : opV (openB l W bx byy bw bh) W l.length v = true := hv
  unfold opV at hv'
  simp only [Bool.and_eq_true] at hv'
  have h1 := open_has hv'.2
  have h2 := hasB_true.1 h1.1
  have hkb := (open_has ho).1
  obtain ⟨i, hi⟩ : ∃ i : Nat, vx W v = bx + i := ⟨(vx W v - bx).toNat, by omega⟩
  obtain ⟨j, hj⟩ : ∃ j : Nat, vy W v = byy + j := ⟨(vy W v - byy).toNat, by omega⟩
  have hid := idx_v L.wh.1 v
  have hco : (mapNet L).cost v = costI l W (bx + i, byy + j) := by
    rw [cost_idx, ← hi, ← hj, hid]; rfl
  rw [hco]
  rw [hi, hj] at hf hkb h1 hid ⊢
  have := relB_near (l := l) (W := W) (bx := bx) (byy := byy) (bw := bw) (bh := bh) far (i := i) (j := j) hk (by omega) (by omega) hkb hf bh.toNat (by omega)
  rw [hid] at this
  exact this

theorem count_lt {α : Type} {p q : α → Bool} : ∀ {l : List α}, (∀ a ∈ l, p a = true → q a = true) → (∃ a ∈ l, q a = true ∧ p a = false) → l.countP p < l.countP q
  | [], _, ⟨a, h, _⟩ => by cases h
  | b :: l, hpq, ⟨a, ha, hq, hp⟩ => by
    rw [List.countP_cons, List.countP_cons]
    have hmono : l.countP p ≤ l.countP q := List.countP_mono_left fun x hx => hpq x (List.mem_cons_of_mem _ hx)
    by_cases hab : a = b
    · subst hab
      rw [hq, hp]; simp; omega
    · have hal : a ∈ l := by
        rcases List.mem_cons.1 ha with h | h
        · exact absurd h hab
        · exact h
      have := count_lt (fun x hx => hpq x (List.mem_cons_of_mem _ hx)) ⟨a, hal, hq, hp⟩
      have hb := hpq b List.mem_cons_self
      cases h : p b
      · split <;> split <;> simp_all <;> omega
      · rw [hb h]; simp; omega

/-- How many are right already. -/
def rightN (n : Nat) (D far : Nat → Int) : Nat := (List.range n).countP fun v => decide (far v = D v)

theorem rightN_le (n : Nat) (D far : Nat → Int) : rightN n D far ≤ n := by
  have := List.countP_le_length (p := fun v => decide (far v = D v)) (l := List.range n)
  rw [List.length_range] at this
  exact this

/-- Of those that are not right yet one of the least becomes right in a round. -/
theorem rnd_grows (L : LandP W H l bx byy bw bh) {s : Nat} {D : Nat → Int} (F : IsFar (mapNet L) s D) {far : Nat → Int} (h : LowB D far) (hle : ∀ v, far v ≤ infI) (hs : far s = D s) (hne : ∃ v, far v ≠ D v) : rightN l.length D far < rightN l.length D (rnd l W bx byy bw bh far) := by
  have hfin : ∀ v, far v ≠ D v → D v < infI := fun v hv => by
    have h1 := h v
    have h2 := hle v
    omega
  have hlow : LowB D (rnd l W bx byy bw bh far) := relB_low L F h hle _ (by have := (fitsR_true.1 L.fits); omega)
  obtain ⟨v, hv, hmin⟩ : ∃ v, far v ≠ D v ∧ ∀ u, far u ≠ D u → D v ≤ D u := by
    obtain ⟨v0, h0⟩ := hne
    have : ∀ k : Nat, ∀ v, far v ≠ D v → D v = (k : Int) → ∃ v, far v ≠ D v ∧ ∀ u, far u ≠ D u → D v ≤ D u := by
      intro k
      induction k using Nat.strongRecOn with
      | _ k ih =>
        intro v hv hk
        by_cases hex : ∃ u, far u ≠ D u ∧ D u < D v
        · obtain ⟨u, hu, hlt⟩ := hex
          exact ih (D u).toNat (by have := F.nn u; omega) u hu (by have := F.nn u; omega)
        · exact ⟨v, hv, fun u hu => Int.not_lt.1 fun hlt => hex ⟨u, hu, hlt⟩⟩
    exact this (D v0).toNat v0 h0 (by have := F.nn v0; omega)
  have hvf := hfin v hv
  have hov := F.open_ hvf
  have hvs : v ≠ s := fun e => hv (e ▸ hs)
  obtain ⟨u, hu, huo, he⟩ := F.from_ v hov hvs hvf
  have hc := (mapNet L).pos v hov
  have huR : far u = D u := by
    by_cases e : far u = D u
    · exact e
    · have := hmin u e
      omega
  have hn := rnd_near L far hov hu (by omega)
  have hlt : v < l.length := (mapNet L).lt v hov
  refine count_lt (fun x _ hx => ?_) ⟨v, List.mem_range.2 hlt, ?_, by simpa using hv⟩
  · simp only [decide_eq_true_eq] at hx ⊢
    have h1 := relB_le (l := l) (W := W) (bx := bx) (byy := byy) (bw := bw) (bh := bh) far x bh.toNat
    have h2 := hlow x
    show relB l W bx byy bw bh far bh.toNat x = D x
    unfold rnd at h2
    omega
  · simp only [decide_eq_true_eq]
    have h2 := hlow v
    omega

/-- What the rounds keep: r rounds are done. -/
structure Rnds (D far : Nat → Int) (s n r : Nat) : Prop where
  low : LowB D far
  le : ∀ v, far v ≤ infI
  at_ : far s = D s
  many : (∀ v, far v = D v) ∨ r + 1 ≤ rightN n D far

theorem Rnds.start (L : LandP W H l bx byy bw bh) {s : Nat} {D : Nat → Int} (F : IsFar (mapNet L) s D) (ho : (mapNet L).op s = true) : Rnds D (updF (fun _ => infI) s 0) s l.length 0 where
  low v := by
    unfold updF
    split
    · next e => subst e; rw [F.start ho]; exact Int.le_refl _
    · exact F.le v
  le v := by
    unfold updF
    split
    · decide
    · exact Int.le_refl _
  at_ := by rw [updF_same, F.start ho]
  many := by
    right
    have : 0 < rightN l.length D (updF (fun _ => infI) s 0) := by
      refine List.countP_pos_iff.2 ⟨s, List.mem_range.2 ((mapNet L).lt s ho), ?_⟩
      rw [updF_same, F.start ho]; rfl
    omega
theorem Rnds.next (L : LandP W H l bx byy bw bh) {s r : Nat} {D far : Nat → Int} (F : IsFar (mapNet L) s D) (h : Rnds D far s l.length r) : Rnds D (rnd l W bx byy bw bh far) s l.length (r + 1) := by
  have hbh := (fitsR_true.1 L.fits)
  have hlow : LowB D (rnd l W bx byy bw bh far) := relB_low L F h.low h.le _ (by omega)
  have hle : ∀ v, rnd l W bx byy bw bh far v ≤ far v := fun v => relB_le far v _
  refine ⟨hlow, fun v => Int.le_trans (hle v) (h.le v), ?_, ?_⟩
  · have h1 := hle s
    have h2 := hlow s
    have := h.at_
    omega
  · by_cases hd : ∀ v, far v = D v
    · left
      intro v
      have h1 := hle v
      have h2 := hlow v
      have := hd v
      omega
    · right
      have hne : ∃ v, far v ≠ D v := by simpa using hd
      have := rnd_grows L F h.low h.le h.at_ hne
      rcases h.many with hm | hm
      · exact absurd hm hd
      · omega
theorem Rnds.still (L : LandP W H l bx byy bw bh) {s r : Nat} {D far : Nat → Int} (F : IsFar (mapNet L) s D) (h : Rnds D far s l.length r) (he : ∀ v, rnd l W bx byy bw bh far v = far v) : ∀ v, far v = D v := by
  by_cases hd : ∀ v, far v = D v
  · exact hd
  · have hne : ∃ v, far v ≠ D v := by simpa using hd
    have := rnd_grows L F h.low h.le h.at_ hne
    rw [show rnd l W bx byy bw bh far = far from funext he] at this
    omega
theorem Rnds.full {s n : Nat} {D far : Nat → Int} (h : Rnds D far s n n) : ∀ v, far v = D v := by
  rcases h.many with hm | hm
  · exact hm
  · have := rightN_le n D far
    omega

/-- No sum overflows: what is reached is not far. -/
def BdT (T : Nat) (far : Nat → Int) : Prop := ∀ v, 0 ≤ far v ∧ far v ≤ infI ∧ (far v < infI → far v ≤ 65535 * (T : Int))
theorem BdT.mono {T T' : Nat} {far : Nat → Int} (h : BdT T far) (ht : T ≤ T') : BdT T' far := fun v => ⟨(h v).1, (h v).2.1, fun hv => by have := (h v).2.2 hv; omega⟩
theorem BdT.relD (hu : U16s l) {T : Nat} {far : Nat → Int} (h : BdT T far) (ht : T < 100000000000) (x y : Int) (k : Nat) : BdT (T + 1) (relD l W bx byy bw bh far x y k) := by
  intro v
  have hc := costI_bd hu W (x, y)
  unfold Go.Proofs.Ytkonojjillcfiaa.relD
  split
  · next hk =>
    unfold updF
    split
    · have h1 := h (idxN W (x + dirX k, y + dirY k))
      have h2 := h1.2.2 (by omega)
      have e : infI = 18446744073709551615 := rfl
      refine ⟨by omega, by omega, fun _ => by omega⟩
    · exact (h.mono (Nat.le_succ T)) v
  · exact (h.mono (Nat.le_succ T)) v
theorem BdT.sum (hu : U16s l) {T : Nat} {far : Nat → Int} (h : BdT T far) (ht : T < 100000000000) {u : Nat} (hf : far u ≠ infI) (x y : Int) : far u + costI l W (x, y) < 18446744073709551616 := by
  have hc := costI_bd hu W (x, y)
  have h1 := h u
  have h2 := h1.2.2 (by omega)
  omega
end
end Go.Proofs.Ytkonojjillcfiaa

/- The laws of layer 10 in plain words: what a search comes to; with another budget; there and back; and on a map that costs more. -/
namespace Go.Proofs.Ytkonojjillcfiaa

theorem IsFar.low {G : Net} {s : Nat} {f : Nat → Int} (hf : IsFar G s f) : ∀ (k : Nat) (v : Nat), f v = (k : Int) → f v < infI → f v ≤ 65535 * (((List.range G.n).countP (fun u => decide (f u < f v)) : Nat) : Int) := by
  intro k
  induction k using Nat.strongRecOn with
  | _ k ih =>
    intro v hv hk
    have ho := hf.open_ hk
    by_cases hs : v = s
    · subst hs
      rw [hf.start ho]
      omega
    · obtain ⟨u, hu, huo, he⟩ := hf.from_ v ho hs hk
      have hc := G.pos v ho
      have ht := G.top v ho
      have hn := hf.nn u
      have h1 := ih (f u).toNat (by omega) u (by omega) (by omega)
      have h2 := count_lt (l := List.range G.n) (p := fun x => decide (f x < f u)) (q := fun x => decide (f x < f v)) (fun x _ hx => by simp at hx ⊢; omega) ⟨u, List.mem_range.2 (G.lt u huo), by simp; omega, by simp⟩
      omega
theorem far_low {G : Net} {s : Nat} {f : Nat → Int} (hf : IsFar G s f) : FarLow G f := fun v hv => by
  have h1 := hf.low (f v).toNat v (by have := hf.nn v; omega) hv
  have h2 := List.countP_le_length (p := fun u => decide (f u < f v)) (l := List.range G.n)
  rw [List.length_range] at h2
  omega

def hT (W : Int) (t : Nat) (v : Nat) : Int := manh (vx W v) (vy W v) (vx W t) (vy W t)

/-- What a search comes to: path, cost, settled, error. -/
def SrchN (G : Net) (W : Int) (s t : Nat) (b : Int) (p : List Nat) (c k e : Int) : Prop :=
  (G.op s = true ∧ G.op t = true ∧ ARun G W (hT W t) t b (start0 s) p c k e) ∨ (¬ (G.op s = true ∧ G.op t = true) ∧ p = [] ∧ c = 0 ∧ k = 0 ∧ e = 22)
def Srch (W H : Int) (l : List Int) (x y tx ty b : Int) (p : List Nat) (c k e : Int) : Prop :=
  (findE W H l.length x y tx ty b ≠ 0 ∧ p = [] ∧ c = 0 ∧ k = 0 ∧ e = findE W H l.length x y tx ty b) ∨
  (findE W H l.length x y tx ty b = 0 ∧ ∃ L : LandP W H l 0 0 W H, SrchN (mapNet L) W (idxN W (x, y)) (idxN W (tx, ty)) b p c k e)

theorem SrchN.one {G : Net} {W : Int} (hW : 1 ≤ W) {s t : Nat} {b : Int} {p p' : List Nat} {c c' k k' e e' : Int} (h : SrchN G W s t b p c k e) (h' : SrchN G W s t b p' c' k' e') : p = p' ∧ c = c' ∧ k = k' ∧ e = e' := by
  rcases h with ⟨h1, h2, h3⟩ | ⟨h1, rfl, rfl, rfl, rfl⟩
  · rcases h' with ⟨_, _, k3⟩ | ⟨k1, _⟩
    · exact h3.one hW k3
    · exact absurd ⟨h1, h2⟩ k1
  · rcases h' with ⟨k1, k2, _⟩ | ⟨_, rfl, rfl, rfl, rfl⟩
    · exact absurd ⟨k1, k2⟩ h1
    · exact ⟨rfl, rfl, rfl, rfl⟩
theorem Srch.one {W H : Int} {l : List Int} {x y tx ty b : Int} {p p' : List Nat} {c c' k k' e e' : Int} (h : Srch W H l x y tx ty b p c k e) (h' : Srch W H l x y tx ty b p' c' k' e') : p = p' ∧ c = c' ∧ k = k' ∧ e = e' := by
  rcases h with ⟨h1, rfl, rfl, rfl, rfl⟩ | ⟨h1, L, h2⟩
  · rcases h' with ⟨_, rfl, rfl, rfl, rfl⟩ | ⟨k1, _⟩
    · exact ⟨rfl, rfl, rfl, rfl⟩
    · exact absurd k1 h1
  · rcases h' with ⟨k1, _⟩ | ⟨_, _, k2⟩
    · exact absurd h1 k1
    · exact h2.one L.wh.1 k2

/-- What is known of a search in a net. -/
structure NetOk (G : Net) (W : Int) (t : Nat) : Prop where
  few : G.n ≤ 1000000
  guess : Guess G (hT W t)
  adj : ∀ v m, m ∈ G.adj v → G.op m = true
theorem netOk {W H : Int} {l : List Int} (L : LandP W H l 0 0 W H) (t : Nat) : NetOk (mapNet L) W t :=
  ⟨(by have := L.wh; have := mul_bd (a := W) (b := H) (A := 256) (B := 256) (by omega) (by omega) (by omega) (by omega); have := L.len; show l.length ≤ 1000000; omega), guess_ok L (fun _ => rfl), fun _ _ h => adj_op L h⟩

theorem SrchN.ends {G : Net} {W : Int} {s t : Nat} (N : NetOk G W t) {b : Int} {p : List Nat} {c k e : Int} (h : SrchN G W s t b p c k e) {D : Nat → Int} (F : IsFar G s D) : 0 ≤ k ∧ k ≤ G.n ∧
    ((e = 0 ∧ G.op s = true ∧ Found G D s t p c) ∨ (e = 22 ∧ p = [] ∧ c = 0 ∧ (¬ (G.op s = true ∧ G.op t = true) ∨ (G.op s = true ∧ D t = infI))) ∨ (e = 23 ∧ p = [] ∧ c = 0 ∧ k = b ∧ b < G.n)) := by
  rcases h with ⟨h1, h2, h3⟩ | ⟨h1, rfl, rfl, rfl, rfl⟩
  · have hc := run_cnt h3
    obtain ⟨a1, a2⟩ := run_end h3 (sinv_start h1 F) F N.few N.guess N.adj (by
      show updN (fun _ => 0) s 1 t ≠ 2
      unfold updN
      split <;> simp)
    refine ⟨hc, a1, ?_⟩
    rcases a2 with ⟨e0, a⟩ | ⟨e0, a, b1, b2⟩ | ⟨e0, b1, b2, b3, b4⟩
    · exact .inl ⟨e0, h1, a⟩
    · exact .inr (.inl ⟨e0, b1, b2, .inr ⟨h1, a⟩⟩)
    · exact .inr (.inr ⟨e0, b1, b2, b3, b4⟩)
  · exact ⟨Int.le_refl _, by omega, .inr (.inl ⟨rfl, rfl, rfl, .inl h1⟩)⟩

theorem run_path {G : Net} {W : Int} {h : Nat → Int} {t : Nat} {b : Int} {A : AS} {p : List Nat} {c k e : Int} (r : ARun G W h t b A p c k e) : e = 0 → p ≠ [] := by
  induction r with
  | none _ => intro h; cases h
  | full _ _ _ => intro h; cases h
  | found _ _ hc => intro _ h; cases hc <;> simp at h
  | next _ _ _ _ ih => exact ih

/-- With another budget. -/
theorem srch_budget {W H : Int} {l : List Int} {x y tx ty b : Int} {p1 p2 : List Nat} {c1 c2 k1 k2 e1 e2 : Int} (h1 : Srch W H l x y tx ty l.length p1 c1 k1 e1) (h2 : Srch W H l x y tx ty b p2 c2 k2 e2) :
    (e1 ≠ 0 ∧ e1 ≠ 22 ∧ e2 = e1 ∧ p2 = [] ∧ k2 = 0) ∨
    ((e1 = 0 ∨ e1 = 22) ∧ b < 0 ∧ e2 = 1 ∧ p2 = [] ∧ k2 = 0) ∨
    ((e1 = 0 ∨ e1 = 22) ∧ 0 ≤ b ∧ b < k1 ∧ e2 = 23 ∧ p2 = [] ∧ c2 = 0 ∧ k2 = b) ∨
    ((e1 = 0 ∨ e1 = 22) ∧ 0 ≤ b ∧ k1 ≤ b ∧ e2 = e1 ∧ p2 = p1 ∧ c2 = c1 ∧ k2 = k1) := by
  rcases h1 with ⟨n1, rfl, rfl, rfl, rfl⟩ | ⟨n1, L, s1⟩
  · -- refused
    have hv : findE W H l.length x y tx ty (l.length : Nat) = 10 ∨ findE W H l.length x y tx ty (l.length : Nat) = 12 := by
      revert n1
      unfold findE checkE
      repeat' split
      all_goals (first | omega | (intro h; exact absurd rfl h) | simp)
    left
    refine ⟨n1, by omega, ?_⟩
    rcases h2 with ⟨n2, rfl, rfl, rfl, rfl⟩ | ⟨n2, L, s2⟩
    · refine ⟨?_, rfl, rfl⟩
      revert n1 n2
      unfold findE
      repeat' split
      all_goals (first | omega | simp)
    · exfalso
      obtain ⟨a1, a2, a3, a4⟩ := findE_ok.1 n2
      exact n1 (findE_ok.2 ⟨a1, a2, a3, by omega⟩)
  · obtain ⟨a1, a2, a3, a4⟩ := findE_ok.1 n1
    rcases h2 with ⟨n2, rfl, rfl, rfl, rfl⟩ | ⟨n2, L2, s2⟩
    · -- the budget is below 0
      have hb : b < 0 := by
        by_cases h : 0 ≤ b
        · exact absurd (findE_ok.2 ⟨a1, a2, a3, h⟩) n2
        · omega
      have he : findE W H l.length x y tx ty b = 1 := by
        unfold findE
        rw [if_pos a1, if_pos ⟨a2, a3⟩, if_pos hb]
      right; left
      refine ⟨?_, hb, he, rfl, rfl⟩
      by_cases ho : (mapNet L).op (idxN W (x, y)) = true
      · obtain ⟨D, F⟩ := far_ex _ _ ho
        rcases (s1.ends (netOk L _) F).2.2 with h | h | h
        · exact .inl h.1
        · exact .inr h.1
        · exfalso
          have : (mapNet L).n = l.length := rfl
          omega
      · rcases s1 with h | h
        · exact absurd h.1 ho
        · exact .inr h.2.2.2.2
    · obtain ⟨_, _, _, hb⟩ := findE_ok.1 n2
      rcases s1 with ⟨o1, o2, r1⟩ | ⟨no, rfl, rfl, rfl, rfl⟩
      · obtain ⟨D, F⟩ := far_ex _ _ o1
        have hE := SrchN.ends (netOk L _) (.inl ⟨o1, o2, r1⟩) F
        have h23 : e1 ≠ 23 := fun h => by
          have : (mapNet L).n = l.length := rfl
          rcases hE.2.2 with h' | h' | h'
          · have := h'.1; omega
          · have := h'.1; omega
          · omega
        have he1 : e1 = 0 ∨ e1 = 22 := by
          rcases hE.2.2 with h' | h' | h'
          · exact .inl h'.1
          · exact .inr h'.1
          · exact absurd h'.1 h23
        have hB := run_budget r1 h23 (b := b) hb
        by_cases hk : b < k1
        · obtain ⟨rfl, rfl, rfl, rfl⟩ := SrchN.one L.wh.1 s2 (.inl ⟨o1, o2, hB.1 hk⟩)
          exact .inr (.inr (.inl ⟨he1, hb, hk, rfl, rfl, rfl, rfl⟩))
        · obtain ⟨rfl, rfl, rfl, rfl⟩ := SrchN.one L.wh.1 s2 (.inl ⟨o1, o2, hB.2 (by omega)⟩)
          exact .inr (.inr (.inr ⟨he1, hb, by omega, rfl, rfl, rfl, rfl⟩))
      · rcases s2 with ⟨o1, o2, _⟩ | ⟨_, rfl, rfl, rfl, rfl⟩
        · exact absurd ⟨o1, o2⟩ no
        · exact .inr (.inr (.inr ⟨.inr rfl, hb, hb, rfl, rfl, rfl, rfl⟩))

theorem full_ends {W H : Int} {l : List Int} (L : LandP W H l 0 0 W H) {s t : Nat} {p : List Nat} {c k e : Int} (h : SrchN (mapNet L) W s t l.length p c k e) :
    (e = 0 ∧ p ≠ [] ∧ (mapNet L).op s = true ∧ (mapNet L).op t = true ∧ ∃ D, IsFar (mapNet L) s D ∧ Found (mapNet L) D s t p c) ∨ (e = 22 ∧ p = [] ∧ c = 0 ∧ ∀ d, Way (mapNet L) s t d → infI ≤ d) := by
  by_cases ho : (mapNet L).op s = true
  · obtain ⟨D, F⟩ := far_ex _ _ ho
    rcases (h.ends (netOk L _) F).2.2 with ⟨a1, a2, a3⟩ | ⟨a1, a2, a3, a4⟩ | a
    · refine .inl ⟨a1, ?_, ho, F.open_ a3.fin, D, F, a3⟩
      rcases h with h | h
      · exact run_path h.2.2 a1
      · rw [a1] at h; exact absurd h.2.2.2.2 (by decide)
    · refine .inr ⟨a1, a2, a3, fun d hw => ?_⟩
      rcases a4 with a4 | a4
      · exact absurd ⟨hw.ends.1, hw.ends.2.1⟩ a4
      · by_cases hd : d < infI
        · have := F.le_way hw hd
          omega
        · omega
    · exfalso
      have : (mapNet L).n = l.length := rfl
      omega
  · rcases h with h | ⟨h1, h2, h3, h4, h5⟩
    · exact absurd h.1 ho
    · exact .inr ⟨h5, h2, h3, fun d hw => absurd hw.ends.1 ho⟩

/-- There and back. -/
theorem srch_own {W H : Int} {l : List Int} {x y tx ty : Int} {p1 p2 : List Nat} {c1 c2 k1 k2 e1 e2 : Int} (h1 : Srch W H l x y tx ty l.length p1 c1 k1 e1) (h2 : Srch W H l tx ty x y l.length p2 c2 k2 e2) :
    e1 = e2 ∧ ((e1 ≠ 0 ∧ p1 = [] ∧ p2 = []) ∨ (e1 = 0 ∧ p1 ≠ [] ∧ inB W H x y = true ∧ inB W H tx ty = true ∧ LandP W H l 0 0 W H ∧ c1 + l.getD (idxN W (x, y)) 0 = c2 + l.getD (idxN W (tx, ty)) 0 ∧ 0 ≤ c1 ∧ c1 ≤ 1000000000000 ∧ 0 ≤ c2 ∧ c2 ≤ 1000000000000)) := by
  have hsw : findE W H l.length tx ty x y l.length = findE W H l.length x y tx ty l.length := by
    unfold findE
    split
    · by_cases k : inB W H x y = true ∧ inB W H tx ty = true
      · rw [if_pos k, if_pos ⟨k.2, k.1⟩]
      · rw [if_neg k, if_neg (fun e => k ⟨e.2, e.1⟩)]
    · rfl
  rcases h1 with ⟨n1, rfl, rfl, rfl, rfl⟩ | ⟨n1, L, s1⟩
  · rcases h2 with ⟨n2, rfl, rfl, rfl, rfl⟩ | ⟨n2, _⟩
    · exact ⟨hsw.symm, .inl ⟨n1, rfl, rfl⟩⟩
    · exact absurd (hsw.symm.trans n2) n1
  · rcases h2 with ⟨n2, _⟩ | ⟨n2, _, s2⟩
    · exact absurd (hsw.trans n1) n2
    · obtain ⟨a1, a2, a3, a4⟩ := findE_ok.1 n1
      have N := netOk L (idxN W (x, y))
      rcases full_ends L s1 with ⟨e1, q1, o1, o2, D1, F1, f1⟩ | ⟨e1, q1, _, w1⟩
      · rcases full_ends L s2 with ⟨e2, q2, _, _, D2, F2, f2⟩ | ⟨e2, q2, _, w2⟩
        · have b1 := IsFar.backs N.few F1 F2 (far_low F1) f1.fin
          have b2 := IsFar.backs N.few F2 F1 (far_low F2) f2.fin
          have l1 := far_low F1 _ f1.fin
          have l2 := far_low F2 _ f2.fin
          have g1 := F1.nn (idxN W (tx, ty))
          have g2 := F2.nn (idxN W (x, y))
          have hf := N.few
          have j1 := f1.cost
          have j2 := f2.cost
          refine ⟨e1.trans e2.symm, .inr ⟨e1, q1, a2, a3, L, ?_, ?_, ?_, ?_, ?_⟩⟩
          · show c1 + (mapNet L).cost _ = c2 + (mapNet L).cost _
            omega
          all_goals omega
        · exfalso
          have wb := (F1.way_of f1.fin).back
          have := w2 _ wb
          have l1 := far_low F1 _ f1.fin
          have hf := N.few
          have := (mapNet L).top _ o1
          have := (mapNet L).pos _ o2
          have : infI = 18446744073709551615 := rfl
          omega
      · rcases full_ends L s2 with ⟨e2, q2, o1, o2, D2, F2, f2⟩ | ⟨e2, q2, _, w2⟩
        · exfalso
          have wb := (F2.way_of f2.fin).back
          have := w1 _ wb
          have l1 := far_low F2 _ f2.fin
          have hf := N.few
          have := (mapNet L).top _ o1
          have := (mapNet L).pos _ o2
          have : infI = 18446744073709551615 := rfl
          omega
        · exact ⟨e1.trans e2.symm, .inl ⟨by omega, q1, q2⟩⟩

/-- A way where all costs turn, but nothing is shut. -/
theorem Way.dear {G K : Net} (ho : ∀ v, G.op v = true → K.op v = true) (ha : ∀ u v, G.op u = true → G.op v = true → u ∈ G.adj v → u ∈ K.adj v) {s v : Nat} {c : Int} (h : Way G s v c) : ∃ d, d ≤ 65535 * c ∧ Way K s v d := by
  induction h with
  | start h => exact ⟨0, by omega, .start (ho _ h)⟩
  | step w hu hov ih =>
    obtain ⟨d, h1, h2⟩ := ih
    have := K.top _ (ho _ hov)
    have := G.pos _ hov
    exact ⟨_, by omega, Way.step h2 (ha _ _ w.ends.2.1 hov hu) (ho _ hov)⟩

theorem op_iff {W H : Int} {l : List Int} (L : LandP W H l 0 0 W H) (v : Nat) : (mapNet L).op v = true ↔ v < l.length ∧ 0 < l.getD v 0 := by
  show opV (openB l W 0 0 W H) W l.length v = true ↔ _
  unfold opV openB
  simp only [Bool.and_eq_true, decide_eq_true_eq]
  rw [L.cost_v v]
  constructor
  · intro h; exact ⟨h.1, h.2.2⟩
  · intro h
    refine ⟨h.1, hasB_true.2 ?_, h.2⟩
    have := L.v_in h.1
    omega
theorem adj_mono {W H : Int} {l l' : List Int} (L : LandP W H l 0 0 W H) (L' : LandP W H l' 0 0 W H) {u x : Nat} (h : x ∈ (mapNet L).adj u) (hx : 0 < l'.getD x 0) : x ∈ (mapNet L').adj u := by
  obtain ⟨p, hp, rfl⟩ := List.mem_map.1 h
  obtain ⟨k, hk, ho, rfl⟩ := mem_nbC.1 hp
  refine List.mem_map.2 ⟨_, mem_nbC.2 ⟨k, hk, ?_, rfl⟩, rfl⟩
  unfold openB
  rw [(open_has ho).1, cost_idx]
  simpa using hx

theorem run_few {G : Net} {W : Int} {h : Nat → Int} {t s : Nat} {b : Int} {A : AS} {D : Nat → Int} {p : List Nat} {c k e : Int} (r : ARun G W h t b A p c k e) (I : SInv G D s A (fun _ _ => False)) (F : IsFar G s D) (hn : G.n ≤ 1000000) (hg : Guess G h) (hadj : ∀ v m, m ∈ G.adj v → G.op m = true) : p.Nodup ∧ ∀ u, u ∈ p → G.op u = true := by
  induction r with
  | none h0 => exact ⟨List.nodup_nil, fun u hu => by cases hu⟩
  | full v hv hc => exact ⟨List.nodup_nil, fun u hu => by cases hu⟩
  | found hB hb hc =>
    rename_i A l
    have h1 := sinv_best I F hn hg hB
    have h0 := F.nn t
    have h2 := hB.1
    obtain ⟨l2, c1, c2, c3⟩ := chain_ex I (A.g t).toNat t (by omega) (by omega)
    have := hc.one c1
    subst this
    exact ⟨List.pairwise_reverse.2 (c3.imp (fun h => Ne.symm h)), fun u hu => I.op u (c2 u (List.mem_reverse.1 hu)).1⟩
  | next hB hb hv r ih => exact ih (sinv_step I F hn hg hadj hB)

theorem SrchN.path {G : Net} {W : Int} {s t : Nat} (N : NetOk G W t) {b : Int} {p : List Nat} {c k e : Int} (h : SrchN G W s t b p c k e) : p.length ≤ G.n ∧ ∀ u, u ∈ p → G.op u = true := by
  rcases h with ⟨h1, h2, h3⟩ | ⟨h1, rfl, rfl, rfl, rfl⟩
  · obtain ⟨D, F⟩ := far_ex _ _ h1
    obtain ⟨a, b⟩ := run_few h3 (sinv_start h1 F) F N.few N.guess N.adj
    exact ⟨nodup_le a (fun u hu => G.lt u (b u hu)), b⟩
  · exact ⟨Nat.zero_le _, fun u hu => by cases hu⟩

/-- Where all costs as much or more. -/
theorem srch_more {W H : Int} {l l' : List Int} (hlen : l'.length = l.length) (hm : ∀ v, 0 < l'.getD v 0 → 0 < l.getD v 0 ∧ l.getD v 0 ≤ l'.getD v 0) (j : Nat) (hj : ∀ v, v ≠ j → l'.getD v 0 = l.getD v 0) {x y tx ty : Int} {p1 p2 : List Nat} {c1 c2 k1 k2 e1 e2 : Int} (h1 : Srch W H l x y tx ty l.length p1 c1 k1 e1) (h2 : Srch W H l' x y tx ty l'.length p2 c2 k2 e2) :
    (e1 ≠ 0 ∧ e2 = e1 ∧ p2 = []) ∨ (e1 = 0 ∧ p1.length ≤ l.length ∧ (∀ u, u ∈ p1 → u < l.length) ∧ (j ∉ p1 → e2 = 0 ∧ c2 = c1) ∧ ((e2 = 0 ∧ c1 ≤ c2) ∨ (e2 = 22 ∧ l'.getD j 0 = 0 ∧ p2 = []))) := by
  have hu' := h2
  unfold Srch at hu'
  rw [hlen] at hu'
  rcases h1 with ⟨n1, rfl, rfl, rfl, rfl⟩ | ⟨n1, L, s1⟩
  · rcases hu' with ⟨n2, rfl, rfl, rfl, rfl⟩ | ⟨n2, _⟩
    · exact .inl ⟨n1, rfl, rfl⟩
    · exact absurd n2 n1
  · rcases hu' with ⟨n2, _⟩ | ⟨n2, L', s2⟩
    · exact absurd n1 n2
    · have N := netOk L (idxN W (tx, ty))
      have hinf : infI = 18446744073709551615 := rfl
      have hsub : (mapNet L').Sub (mapNet L) := ⟨fun v hv => by
          obtain ⟨a, b⟩ := (op_iff L' v).1 hv
          exact (op_iff L v).2 ⟨by omega, (hm v b).1⟩, fun v hv => (hm v ((op_iff L' v).1 hv).2).2, fun u v hu _ ha => adj_mono L' L ha (hm u ((op_iff L' u).1 hu).2).1⟩
      rw [← hlen] at s2
      rcases full_ends L s1 with ⟨rfl, q1, o1, o2, D1, F1, f1⟩ | ⟨rfl, q1, _, w1⟩
      · right
        have hp := s1.path N
        have l1 := far_low F1 _ f1.fin
        have hf := N.few
        refine ⟨rfl, hp.1, fun u hu => (mapNet L).lt u (hp.2 u hu), ?_, ?_⟩
        · intro hnot
          have hw : Way (mapNet L') (idxN W (x, y)) (idxN W (tx, ty)) c1 := f1.way (mapNet L') (fun u hu => by
            have hne : u ≠ j := fun e => hnot (e ▸ hu)
            have ho := (op_iff L u).1 (hp.2 u hu)
            exact ⟨(op_iff L' u).2 ⟨by omega, by rw [hj u hne]; exact ho.2⟩, hj u hne⟩) (fun u z hu hz ha => by
            have hne : z ≠ j := fun e => hnot (e ▸ hz)
            have ho := (op_iff L z).1 (hp.2 z hz)
            exact adj_mono L L' ha (by rw [hj z hne]; exact ho.2))
          have hcl : c1 < infI := by have := f1.cost; have := f1.fin; omega
          rcases full_ends L' s2 with ⟨rfl, q2, _, _, D2, F2, f2⟩ | ⟨rfl, q2, _, w2⟩
          · refine ⟨rfl, ?_⟩
            have a1 := F2.le_way hw hcl
            have a2 := F2.sub_le hsub F1 (idxN W (tx, ty))
            have := f1.cost
            have := f2.cost
            omega
          · have := w2 _ hw
            omega
        · rcases full_ends L' s2 with ⟨rfl, q2, _, _, D2, F2, f2⟩ | ⟨rfl, q2, _, w2⟩
          · have a2 := F2.sub_le hsub F1 (idxN W (tx, ty))
            have := f1.cost
            have := f2.cost
            exact .inl ⟨rfl, by omega⟩
          · refine .inr ⟨rfl, ?_, q2⟩
            by_cases h0 : 0 < l'.getD j 0
            · exfalso
              have hpos : ∀ v, 0 < l.getD v 0 → 0 < l'.getD v 0 := fun v hv => by
                by_cases e : v = j
                · rw [e]; exact h0
                · rw [hj v e]; exact hv
              obtain ⟨d, hd, hw⟩ := (F1.way_of f1.fin).dear (K := mapNet L') (fun v hv => by
                obtain ⟨a, b⟩ := (op_iff L v).1 hv
                exact (op_iff L' v).2 ⟨by omega, hpos v b⟩) (fun u v hu _ ha => adj_mono L L' ha (hpos u ((op_iff L u).1 hu).2))
              have := w2 _ hw
              omega
            · have := (costI_bd L'.u16 W (vx W j, vy W j)).1
              rw [L'.cost_v j] at this
              omega
      · left
        refine ⟨by decide, ?_⟩
        rcases full_ends L' s2 with ⟨rfl, q2, _, _, D2, F2, f2⟩ | ⟨rfl, q2, _, w2⟩
        · exfalso
          obtain ⟨d, hd, hw⟩ := (F2.way_of f2.fin).sub hsub
          have := w1 _ hw
          have := f2.fin
          omega
        · exact ⟨rfl, q2⟩
end Go.Proofs.Ytkonojjillcfiaa

/- star.Find in one contract. -/
namespace Go.Proofs.Ytkonojjillcfiaa
open Go.RowKit

def Finds (W H : Int) (l : List Int) (x y tx ty b : Int) (base : Nat) (e : Ending) (w' : World) : Prop :=
  ∃ (p : List Nat) (c k er : Int) (v : Value), Srch W H l x y tx ty b p c k er ∧ e = .returned (.tuple #[.agg #[v, .int .u64 c, .int .i64 k], .int .i64 er]) ∧ Own cellE w' base 49 v (p.map (cellV W))

theorem sFind_uni {w : World} (W H : Int) (a : Option Addr) {l : List Int} (c : Nat) (x y tx ty b : Int) (hr : Row16 w a l) (hu : U16s l) :
    Calls Try.prog 29 #[.agg #[.int .i64 W, .int .i64 H, .slice a l.length c], .agg #[.int .i64 x, .int .i64 y], .agg #[.int .i64 tx, .int .i64 ty], .int .i64 b] w fun e w' => Ext w w' ∧ Finds W H l x y tx ty b w.heap.size e w' := by
  by_cases he : findE W H l.length x y tx ty b = 0
  · refine (sFind_any c he hr hu).mono ?_
    rintro e w' ⟨hx, h1, h2⟩
    refine ⟨hx, ?_⟩
    by_cases ho : (mapNet (landP_of (whole_of he).1 hu)).op (idxN W (x, y)) = true ∧ (mapNet (landP_of (whole_of he).1 hu)).op (idxN W (tx, ty)) = true
    · obtain ⟨p, cc, k, er, v, a1, a2, a3⟩ := h1 ho
      exact ⟨p, cc, k, er, v, .inr ⟨he, _, .inl ⟨ho.1, ho.2, a1⟩⟩, a2, a3⟩
    · exact ⟨[], 0, 0, 22, _, .inr ⟨he, landP_of (whole_of he).1 hu, .inr ⟨ho, rfl, rfl, rfl, rfl⟩⟩, h2 ho, Own.nil _ _ _ _⟩
  · refine (sFind_bad W H a l.length c x y tx ty b he).mono ?_
    rintro e w' ⟨h1, hx⟩
    exact ⟨hx, [], 0, 0, _, _, .inl ⟨he, rfl, rfl, rfl, rfl⟩, h1, Own.nil _ _ _ _⟩
end Go.Proofs.Ytkonojjillcfiaa

/- Walks of the reference's small functions of layer 10, and of what its laws share. -/
namespace Go.Proofs.Ytkonojjillcfiaa
open Go.RowKit

theorem r10Abs_any (n : Int) (w : World) (h : -1000000 ≤ n ∧ n ≤ 1000000) : Calls Try.prog 109 #[.int .i64 n] w fun e w' => e = .returned (.int .i64 (absI n)) ∧ Ext w w' := by
  by_cases h0 : n < 0
  · have e0 : absI n = -n := if_pos h0
    have hb : decide (n < 0) = true := by simpa using h0
    have k : IntKind.i64.wrap (-n) = -n := IntWalk.i64_in _ (by omega)
    rw [e0]
    clear e0
    go_enter Try.func109, Try.ntmps109
    go_wp2
    go_ret
    exact ⟨rfl, (by (with_reducible (repeat' (first | exact Ext.refl _ | assumption | refine Ext.drew ?_ | refine Ext.drewN ?_ _ | refine Ext.alloc ?_ _ | refine Ext.setCell ?_ ?_ _ | refine Ext.trans ?_ (by assumption)))); all_goals (first | (simp; done) | (simp; omega)))⟩
  · have e0 : absI n = n := if_neg h0
    have hb : decide (n < 0) = false := by simpa using h0
    rw [e0]
    clear e0
    go_enter Try.func109, Try.ntmps109
    go_wp2
    go_ret
    exact ⟨rfl, (by (with_reducible (repeat' (first | exact Ext.refl _ | assumption | refine Ext.drew ?_ | refine Ext.drewN ?_ _ | refine Ext.alloc ?_ _ | refine Ext.setCell ?_ ?_ _ | refine Ext.trans ?_ (by assumption)))); all_goals (first | (simp; done) | (simp; omega)))⟩

theorem r10Guess_any (x y tx ty : Int) (w : World) (hx : 0 ≤ x ∧ x ≤ 1000) (hy : 0 ≤ y ∧ y ≤ 1000) (htx : 0 ≤ tx ∧ tx ≤ 1000) (hty : 0 ≤ ty ∧ ty ≤ 1000) :
    Calls Try.prog 92 #[.agg #[.int .i64 x, .int .i64 y], .agg #[.int .i64 tx, .int .i64 ty]] w fun e w' => e = .returned (.int .u64 (manh x y tx ty)) ∧ Ext w w' := by
  have H1 := hide (fun w' => r10Abs_any (x - tx) w' (by omega))
  have H2 := hide (fun w' => r10Abs_any (y - ty) w' (by omega))
  have b1 := absI_bd (n := x - tx) (by omega)
  have b2 := absI_bd (n := y - ty) (by omega)
  have k1 : IntKind.i64.wrap (x - tx) = x - tx := IntWalk.i64_in _ (by omega)
  have k2 : IntKind.i64.wrap (y - ty) = y - ty := IntWalk.i64_in _ (by omega)
  unfold manh
  generalize absI (x - tx) = p at *
  generalize absI (y - ty) = q at *
  have k3 : IntKind.i64.wrap (p + q) = p + q := IntWalk.i64_in _ (by omega)
  have k4 : IntKind.u64.wrap (p + q) = p + q := by rw [IntKind.wrap_u64]; omega
  go_enter Try.func92, Try.ntmps92
  go_wp2_with fail
  obtain ⟨w1, hw1⟩ : ∃ w1, w1 = (w.alloc (.cells #[.int .i64 x, .int .i64 y] 49)).alloc (.cells #[.int .i64 tx, .int .i64 ty] 49) := ⟨_, rfl⟩
  have hx1 : Ext w w1 := by rw [hw1]; exact (by (with_reducible (repeat' (first | exact Ext.refl _ | assumption | refine Ext.drew ?_ | refine Ext.drewN ?_ _ | refine Ext.alloc ?_ _ | refine Ext.setCell ?_ ?_ _ | refine Ext.trans ?_ (by assumption)))); all_goals (first | (simp; done) | (simp; omega)))
  have B1 := hide (show Blk w1 w.heap.size 49 #[.int .i64 x, .int .i64 y] by rw [hw1]; exact (Blk.new_ rfl).over)
  have B2 := hide (show Blk w1 (w.heap.size + 1) 49 #[.int .i64 tx, .int .i64 ty] by rw [hw1]; exact Blk.new_ (by simp))
  rw [← hw1]
  have b0 := B1.out.at 0 rfl; have b1 := B1.out.at 1 rfl; have bz := B1.out.lt
  have c0 := B2.out.at 0 rfl; have c1 := B2.out.at 1 rfl; have cz := B2.out.lt
  clear hw1
  refine seqH_start (S := (fun W => (∀ b o, b < w1.heap.size → W.cell? ⟨b, o, none⟩ = w1.cell? ⟨b, o, none⟩) ∧ Ext w1 W)) [(0, true), (1, true), (2, true), (3, true), (4, true), (6, true), (7, true), (8, true), (9, true), (10, true), (5, false), (11, false), (12, true), (13, true), (14, true)] (by kernel_rfl) (by kernel_rfl) (by kernel_rfl) (by decide) (fun _ _ d _ _ h => by cases d <;> exact h) (by first | with_reducible exact pr_start _ | exact pr_of (by (with_reducible (repeat' (first | exact Ext.refl _ | assumption | refine Ext.drew ?_ | refine Ext.drewN ?_ _ | refine Ext.alloc ?_ _ | refine Ext.setCell ?_ ?_ _ | refine Ext.trans ?_ (by assumption)))); all_goals (first | (simp; done) | (simp; omega)))) (fun hHeld => ?_)
  iterate 10 (apply SeqH.free; (· (simp only [List.getElem?_toArray, List.getElem?_cons_succ, List.getElem?_cons_zero]; rfl)); (· first | exact Or.inr ⟨by rfl, rfl⟩ | (refine Or.inl ⟨by rfl, ?_⟩; intro w hSw; (try dsimp only at hSw); go_simp; try with_reducible rfl)); try simp only [Act.put, List.setIfInBounds_toArray, List.set_cons_zero, List.set_cons_succ])
  (apply SeqH.step; (· (simp only [List.getElem?_toArray, List.getElem?_cons_succ, List.getElem?_cons_zero]; rfl)); intro K hK; go_simp; refine (H1.out _).mono ?_; rintro e w2 ⟨rfl, hb2⟩; go_wp2_with fail; refine hK.out _ _ (pr_of (by (with_reducible (repeat' (first | exact Ext.refl _ | assumption | refine Ext.drew ?_ | refine Ext.drewN ?_ _ | refine Ext.alloc ?_ _ | refine Ext.setCell ?_ ?_ _ | refine Ext.trans ?_ (by assumption)))); all_goals (first | (simp; done) | (simp; omega)))) (fun hHeld => ?_); clear hK K; try simp only [Act.put, List.setIfInBounds_toArray, List.set_cons_zero, List.set_cons_succ])
  (apply SeqH.step; (· (simp only [List.getElem?_toArray, List.getElem?_cons_succ, List.getElem?_cons_zero]; rfl)); intro K hK; go_simp; refine (H2.out _).mono ?_; rintro e w3 ⟨rfl, hb3⟩; go_wp2_with fail; refine hK.out _ _ (pr_of (by (with_reducible (repeat' (first | exact Ext.refl _ | assumption | refine Ext.drew ?_ | refine Ext.drewN ?_ _ | refine Ext.alloc ?_ _ | refine Ext.setCell ?_ ?_ _ | refine Ext.trans ?_ (by assumption)))); all_goals (first | (simp; done) | (simp; omega)))) (fun hHeld => ?_); clear hK K; try simp only [Act.put, List.setIfInBounds_toArray, List.set_cons_zero, List.set_cons_succ])
  iterate 3 (apply SeqH.free; (· (simp only [List.getElem?_toArray, List.getElem?_cons_succ, List.getElem?_cons_zero]; rfl)); (· first | exact Or.inr ⟨by rfl, rfl⟩ | (refine Or.inl ⟨by rfl, ?_⟩; intro w hSw; (try dsimp only at hSw); go_simp; try with_reducible rfl)); try simp only [Act.put, List.setIfInBounds_toArray, List.set_cons_zero, List.set_cons_succ])
  refine SeqH.done ?_
  have hx2 := hx1.trans hHeld.2
  go_wp2_with fail
  go_ret
  exact ⟨rfl, hx2.trans (by (with_reducible (repeat' (first | exact Ext.refl _ | assumption | refine Ext.drew ?_ | refine Ext.drewN ?_ _ | refine Ext.alloc ?_ _ | refine Ext.setCell ?_ ?_ _ | refine Ext.trans ?_ (by assumption)))); all_goals (first | (simp; done) | (simp; omega)))⟩

theorem r10In_any (W H x y : Int) (w : World) (hm : mayB W H = true) :
    Calls Try.prog 67 #[.agg #[.int .i64 W, .int .i64 H], .agg #[.int .i64 x, .int .i64 y]] w fun e w' => e = .returned (.bool (inB W H x y)) ∧ Ext w w' := by
  rw [inB_has hm]
  have e0 : hasB 0 0 W H x y = (decide (0 ≤ x) && decide (0 ≤ y) && decide (x < W) && decide (y < H)) := by
    rw [Bool.eq_iff_iff, hasB_true]
    simp
    omega
  rw [e0]
  clear hm e0
  go_enter Try.func67, Try.ntmps67
  go_wp2
  all_goals go_ret
  all_goals exact ⟨by simp <;> omega, (by (with_reducible (repeat' (first | exact Ext.refl _ | assumption | refine Ext.drew ?_ | refine Ext.drewN ?_ _ | refine Ext.alloc ?_ _ | refine Ext.setCell ?_ ?_ _ | refine Ext.trans ?_ (by assumption)))); all_goals (first | (simp; done) | (simp; omega)))⟩

set_option maxHeartbeats 1000000 in
theorem r10May_any (W H : Int) (a : Option Addr) (n c : Nat) (x y tx ty b : Int) (w : World) :
    Calls Try.prog 30 #[.agg #[.int .i64 W, .int .i64 H, .slice a n c], .agg #[.int .i64 x, .int .i64 y], .agg #[.int .i64 tx, .int .i64 ty], .int .i64 b] w fun e w' => e = .returned (.int .i64 (findE W H n x y tx ty b)) ∧ Ext w w' := by
  have H0 := hide (fun w' => r04Check_any W H a n c w')
  unfold findE
  by_cases h0 : checkE W H n = 0
  · rw [if_pos h0]
    rw [h0] at H0
    have hm := (checkE_ok.1 h0).1
    have H1 := hide (fun w' => r10In_any W H x y w' hm)
    have H2 := hide (fun w' => r10In_any W H tx ty w' hm)
    clear h0 hm
    generalize inB W H x y = p at *
    generalize inB W H tx ty = q at *
    cases p
    · rw [if_neg (fun h => by cases h.1)]
      go_enter Try.func30, Try.ntmps30
      go_wp2_with (first
        | (go_at_call 23; refine (H0.out _).mono ?_; rintro e w1 ⟨rfl, hb1⟩; obtain ⟨hc1, hf1⟩ := hb1.cells; have hz1 := hb1.size; (repeat (first | rw [World.size_alloc] at hz1 | rw [World.size_drew] at hz1)); have z1_0 : w.heap.size < w1.heap.size := (by omega); have z1_1 : w.heap.size + 1 < w1.heap.size := (by omega); have z1_2 : w.heap.size + 2 < w1.heap.size := (by omega))
        | (go_at_call 67; refine (H1.out _).mono ?_; rintro e w2 ⟨rfl, hb2⟩; obtain ⟨hc2, hf2⟩ := hb2.cells; have hz2 := hb2.size; (repeat (first | rw [World.size_alloc] at hz2 | rw [World.size_drew] at hz2)); have z2_0 : w.heap.size < w2.heap.size := (by omega); have z2_1 : w.heap.size + 1 < w2.heap.size := (by omega); have z2_2 : w.heap.size + 2 < w2.heap.size := (by omega)))
      go_ret
      exact ⟨rfl, (by (with_reducible (repeat' (first | exact Ext.refl _ | assumption | refine Ext.drew ?_ | refine Ext.drewN ?_ _ | refine Ext.alloc ?_ _ | refine Ext.setCell ?_ ?_ _ | refine Ext.trans ?_ (by assumption)))); all_goals (first | (simp; done) | (simp; omega)))⟩
    · cases q
      · rw [if_neg (fun h => by cases h.2)]
        go_enter Try.func30, Try.ntmps30
        go_wp2_with (go_at_call 23; refine (H0.out _).mono ?_; rintro e w1 ⟨rfl, hb1⟩; obtain ⟨hc1, hf1⟩ := hb1.cells; have hz1 := hb1.size; (repeat (first | rw [World.size_alloc] at hz1 | rw [World.size_drew] at hz1)); have z1_0 : w.heap.size < w1.heap.size := (by omega); have z1_1 : w.heap.size + 1 < w1.heap.size := (by omega); have z1_2 : w.heap.size + 2 < w1.heap.size := (by omega))
        refine (H1.out _).mono ?_
        rintro e w2 ⟨rfl, hb2⟩
        obtain ⟨hc2, hf2⟩ := hb2.cells; have hz2 := hb2.size; (repeat (first | rw [World.size_alloc] at hz2 | rw [World.size_drew] at hz2)); have z2_0 : w.heap.size < w2.heap.size := (by omega); have z2_1 : w.heap.size + 1 < w2.heap.size := (by omega); have z2_2 : w.heap.size + 2 < w2.heap.size := (by omega)
        go_wp2_with fail
        refine (H2.out _).mono ?_
        rintro e w3 ⟨rfl, hb3⟩
        go_wp2
        go_ret
        exact ⟨rfl, (by (with_reducible (repeat' (first | exact Ext.refl _ | assumption | refine Ext.drew ?_ | refine Ext.drewN ?_ _ | refine Ext.alloc ?_ _ | refine Ext.setCell ?_ ?_ _ | refine Ext.trans ?_ (by assumption)))); all_goals (first | (simp; done) | (simp; omega)))⟩
      · rw [if_pos ⟨rfl, rfl⟩]
        by_cases hb : b < 0
        · rw [if_pos hb]
          have hd : decide (b < 0) = true := by simpa using hb
          go_enter Try.func30, Try.ntmps30
          go_wp2_with (go_at_call 23; refine (H0.out _).mono ?_; rintro e w1 ⟨rfl, hb1⟩; obtain ⟨hc1, hf1⟩ := hb1.cells; have hz1 := hb1.size; (repeat (first | rw [World.size_alloc] at hz1 | rw [World.size_drew] at hz1)); have z1_0 : w.heap.size < w1.heap.size := (by omega); have z1_1 : w.heap.size + 1 < w1.heap.size := (by omega); have z1_2 : w.heap.size + 2 < w1.heap.size := (by omega))
          refine (H1.out _).mono ?_
          rintro e w2 ⟨rfl, hb2⟩
          obtain ⟨hc2, hf2⟩ := hb2.cells; have hz2 := hb2.size; (repeat (first | rw [World.size_alloc] at hz2 | rw [World.size_drew] at hz2)); have z2_0 : w.heap.size < w2.heap.size := (by omega); have z2_1 : w.heap.size + 1 < w2.heap.size := (by omega); have z2_2 : w.heap.size + 2 < w2.heap.size := (by omega)
          go_wp2_with fail
          refine (H2.out _).mono ?_
          rintro e w3 ⟨rfl, hb3⟩
          go_wp2
          go_ret
          exact ⟨rfl, (by (with_reducible (repeat' (first | exact Ext.refl _ | assumption | refine Ext.drew ?_ | refine Ext.drewN ?_ _ | refine Ext.alloc ?_ _ | refine Ext.setCell ?_ ?_ _ | refine Ext.trans ?_ (by assumption)))); all_goals (first | (simp; done) | (simp; omega)))⟩
        · rw [if_neg hb]
          have hd : decide (b < 0) = false := by simpa using hb
          go_enter Try.func30, Try.ntmps30
          go_wp2_with (go_at_call 23; refine (H0.out _).mono ?_; rintro e w1 ⟨rfl, hb1⟩; obtain ⟨hc1, hf1⟩ := hb1.cells; have hz1 := hb1.size; (repeat (first | rw [World.size_alloc] at hz1 | rw [World.size_drew] at hz1)); have z1_0 : w.heap.size < w1.heap.size := (by omega); have z1_1 : w.heap.size + 1 < w1.heap.size := (by omega); have z1_2 : w.heap.size + 2 < w1.heap.size := (by omega))
          refine (H1.out _).mono ?_
          rintro e w2 ⟨rfl, hb2⟩
          obtain ⟨hc2, hf2⟩ := hb2.cells; have hz2 := hb2.size; (repeat (first | rw [World.size_alloc] at hz2 | rw [World.size_drew] at hz2)); have z2_0 : w.heap.size < w2.heap.size := (by omega); have z2_1 : w.heap.size + 1 < w2.heap.size := (by omega); have z2_2 : w.heap.size + 2 < w2.heap.size := (by omega)
          go_wp2_with fail
          refine (H2.out _).mono ?_
          rintro e w3 ⟨rfl, hb3⟩
          go_wp2
          go_ret
          exact ⟨rfl, (by (with_reducible (repeat' (first | exact Ext.refl _ | assumption | refine Ext.drew ?_ | refine Ext.drewN ?_ _ | refine Ext.alloc ?_ _ | refine Ext.setCell ?_ ?_ _ | refine Ext.trans ?_ (by assumption)))); all_goals (first | (simp; done) | (simp; omega)))⟩
  · rw [if_neg h0]
    generalize checkE W H n = q at *
    have hq : (q != 0) = true := by simpa using h0
    clear h0
    go_enter Try.func30, Try.ntmps30
    go_wp2_with (go_at_call 23; refine (H0.out _).mono ?_; rintro e w1 ⟨rfl, hb1⟩; obtain ⟨hc1, hf1⟩ := hb1.cells; have hz1 := hb1.size; (repeat (first | rw [World.size_alloc] at hz1 | rw [World.size_drew] at hz1)); have z1_0 : w.heap.size < w1.heap.size := (by omega); have z1_1 : w.heap.size + 1 < w1.heap.size := (by omega); have z1_2 : w.heap.size + 2 < w1.heap.size := (by omega))
    go_ret
    exact ⟨rfl, (by (with_reducible (repeat' (first | exact Ext.refl _ | assumption | refine Ext.drew ?_ | refine Ext.drewN ?_ _ | refine Ext.alloc ?_ _ | refine Ext.setCell ?_ ?_ _ | refine Ext.trans ?_ (by assumption)))); all_goals (first | (simp; done) | (simp; omega)))⟩

set_option maxHeartbeats 1000000 in
theorem r10first_any (ax ay ga bx byy gb tx ty : Int) (w : World) (hax : 0 ≤ ax ∧ ax ≤ 1000) (hay : 0 ≤ ay ∧ ay ≤ 1000) (hbx : 0 ≤ bx ∧ bx ≤ 1000) (hby : 0 ≤ byy ∧ byy ≤ 1000) (htx : 0 ≤ tx ∧ tx ≤ 1000) (hty : 0 ≤ ty ∧ ty ≤ 1000) (hga : 0 ≤ ga ∧ ga ≤ 1000000000000) (hgb : 0 ≤ gb ∧ gb ≤ 1000000000000) :
    Calls Try.prog 68 #[.agg #[.int .i64 ax, .int .i64 ay], .int .u64 ga, .agg #[.int .i64 bx, .int .i64 byy], .int .u64 gb, .agg #[.int .i64 tx, .int .i64 ty]] w fun e w' => e = .returned (.bool (lessB ((ga + manh ax ay tx ty, manh ax ay tx ty), (ay, ax)) ((gb + manh bx byy tx ty, manh bx byy tx ty), (byy, bx)))) ∧ Ext w w' := by
  have H1 := hide (fun w' => r10Guess_any ax ay tx ty w' hax hay htx hty)
  have H2 := hide (fun w' => r10Guess_any bx byy tx ty w' hbx hby htx hty)
  have m1 := manh_bd hax hay htx hty
  have m2 := manh_bd hbx hby htx hty
  generalize manh ax ay tx ty = p at *
  generalize manh bx byy tx ty = q at *
  have k1 : IntKind.u64.wrap (ga + p) = ga + p := by rw [IntKind.wrap_u64]; omega
  have k2 : IntKind.u64.wrap (gb + q) = gb + q := by rw [IntKind.wrap_u64]; omega
  obtain ⟨r, hr⟩ : ∃ r, lessB ((ga + p, p), (ay, ax)) ((gb + q, q), (byy, bx)) = r := ⟨_, rfl⟩
  rw [hr]
  unfold lessB at hr
  simp only at hr
  obtain ⟨fa, hfa⟩ : ∃ z, ga + p = z := ⟨_, rfl⟩
  obtain ⟨fb, hfb⟩ : ∃ z, gb + q = z := ⟨_, rfl⟩
  rw [hfa, hfb] at hr
  rw [hfa] at k1
  rw [hfb] at k2
  have K1 := hide (show IntKind.u64.wrap (ga + p) = fa by rw [hfa]; exact k1)
  have K2 := hide (show IntKind.u64.wrap (gb + q) = fb by rw [hfb]; exact k2)
  clear k1 k2 hfa hfb m1 m2 hax hay hbx hby htx hty hga hgb
  by_cases c1 : fa = fb
  · rw [if_pos c1] at hr
    have d1 : (fa != fb) = false := by simpa using c1
    by_cases c2 : p = q
    · rw [if_pos c2] at hr
      have d2 : (p != q) = false := by simpa using c2
      by_cases c3 : ay = byy
      · rw [if_pos c3] at hr
        have d3 : (ay != byy) = false := by simpa using c3
        subst hr
        clear c1 c2 c3
        go_enter Try.func68, Try.ntmps68
        go_wp2_with fail
        refine (H1.out _).mono ?_
        rintro e w1 ⟨rfl, hb1⟩
        obtain ⟨hc1, hf1⟩ := hb1.cells; have hz1 := hb1.size; (repeat (first | rw [World.size_alloc] at hz1 | rw [World.size_drew] at hz1)); have z1_0 : w.heap.size < w1.heap.size := (by omega); have z1_1 : w.heap.size + 1 < w1.heap.size := (by omega); have z1_2 : w.heap.size + 2 < w1.heap.size := (by omega)
        go_wp2_with fail
        refine (H2.out _).mono ?_
        rintro e w2 ⟨rfl, hb2⟩
        obtain ⟨hc2, hf2⟩ := hb2.cells; have hz2 := hb2.size; (repeat (first | rw [World.size_alloc] at hz2 | rw [World.size_drew] at hz2)); have z2_0 : w.heap.size < w2.heap.size := (by omega); have z2_1 : w.heap.size + 1 < w2.heap.size := (by omega); have z2_2 : w.heap.size + 2 < w2.heap.size := (by omega)
        have k1 := K1.out
        have k2 := K2.out
        go_wp2
        go_ret
        exact ⟨rfl, (by (with_reducible (repeat' (first | exact Ext.refl _ | assumption | refine Ext.drew ?_ | refine Ext.drewN ?_ _ | refine Ext.alloc ?_ _ | refine Ext.setCell ?_ ?_ _ | refine Ext.trans ?_ (by assumption)))); all_goals (first | (simp; done) | (simp; omega)))⟩
      · rw [if_neg c3] at hr
        have d3 : (ay != byy) = true := by simpa using c3
        subst hr
        clear c1 c2 c3
        go_enter Try.func68, Try.ntmps68
        go_wp2_with fail
        refine (H1.out _).mono ?_
        rintro e w1 ⟨rfl, hb1⟩
        obtain ⟨hc1, hf1⟩ := hb1.cells; have hz1 := hb1.size; (repeat (first | rw [World.size_alloc] at hz1 | rw [World.size_drew] at hz1)); have z1_0 : w.heap.size < w1.heap.size := (by omega); have z1_1 : w.heap.size + 1 < w1.heap.size := (by omega); have z1_2 : w.heap.size + 2 < w1.heap.size := (by omega)
        go_wp2_with fail
        refine (H2.out _).mono ?_
        rintro e w2 ⟨rfl, hb2⟩
        obtain ⟨hc2, hf2⟩ := hb2.cells; have hz2 := hb2.size; (repeat (first | rw [World.size_alloc] at hz2 | rw [World.size_drew] at hz2)); have z2_0 : w.heap.size < w2.heap.size := (by omega); have z2_1 : w.heap.size + 1 < w2.heap.size := (by omega); have z2_2 : w.heap.size + 2 < w2.heap.size := (by omega)
        have k1 := K1.out
        have k2 := K2.out
        go_wp2
        go_ret
        exact ⟨rfl, (by (with_reducible (repeat' (first | exact Ext.refl _ | assumption | refine Ext.drew ?_ | refine Ext.drewN ?_ _ | refine Ext.alloc ?_ _ | refine Ext.setCell ?_ ?_ _ | refine Ext.trans ?_ (by assumption)))); all_goals (first | (simp; done) | (simp; omega)))⟩
    · rw [if_neg c2] at hr
      have d2 : (p != q) = true := by simpa using c2
      subst hr
      clear c1 c2
      go_enter Try.func68, Try.ntmps68
      go_wp2_with fail
      refine (H1.out _).mono ?_
      rintro e w1 ⟨rfl, hb1⟩
      obtain ⟨hc1, hf1⟩ := hb1.cells; have hz1 := hb1.size; (repeat (first | rw [World.size_alloc] at hz1 | rw [World.size_drew] at hz1)); have z1_0 : w.heap.size < w1.heap.size := (by omega); have z1_1 : w.heap.size + 1 < w1.heap.size := (by omega); have z1_2 : w.heap.size + 2 < w1.heap.size := (by omega)
      go_wp2_with fail
      refine (H2.out _).mono ?_
      rintro e w2 ⟨rfl, hb2⟩
      obtain ⟨hc2, hf2⟩ := hb2.cells; have hz2 := hb2.size; (repeat (first | rw [World.size_alloc] at hz2 | rw [World.size_drew] at hz2)); have z2_0 : w.heap.size < w2.heap.size := (by omega); have z2_1 : w.heap.size + 1 < w2.heap.size := (by omega); have z2_2 : w.heap.size + 2 < w2.heap.size := (by omega)
      have k1 := K1.out
      have k2 := K2.out
      go_wp2
      go_ret
      exact ⟨rfl, (by (with_reducible (repeat' (first | exact Ext.refl _ | assumption | refine Ext.drew ?_ | refine Ext.drewN ?_ _ | refine Ext.alloc ?_ _ | refine Ext.setCell ?_ ?_ _ | refine Ext.trans ?_ (by assumption)))); all_goals (first | (simp; done) | (simp; omega)))⟩
  · rw [if_neg c1] at hr
    have d1 : (fa != fb) = true := by simpa using c1
    subst hr
    clear c1
    go_enter Try.func68, Try.ntmps68
    go_wp2_with fail
    refine (H1.out _).mono ?_
    rintro e w1 ⟨rfl, hb1⟩
    obtain ⟨hc1, hf1⟩ := hb1.cells; have hz1 := hb1.size; (repeat (first | rw [World.size_alloc] at hz1 | rw [World.size_drew] at hz1)); have z1_0 : w.heap.size < w1.heap.size := (by omega); have z1_1 : w.heap.size + 1 < w1.heap.size := (by omega); have z1_2 : w.heap.size + 2 < w1.heap.size := (by omega)
    go_wp2_with fail
    refine (H2.out _).mono ?_
    rintro e w2 ⟨rfl, hb2⟩
    obtain ⟨hc2, hf2⟩ := hb2.cells; have hz2 := hb2.size; (repeat (first | rw [World.size_alloc] at hz2 | rw [World.size_drew] at hz2)); have z2_0 : w.heap.size < w2.heap.size := (by omega); have z2_1 : w.heap.size + 1 < w2.heap.size := (by omega); have z2_2 : w.heap.size + 2 < w2.heap.size := (by omega)
    have k1 := K1.out
    have k2 := K2.out
    go_wp2
    go_ret
    exact ⟨rfl, (by (with_reducible (repeat' (first | exact Ext.refl _ | assumption | refine Ext.drew ?_ | refine Ext.drewN ?_ _ | refine Ext.alloc ?_ _ | refine Ext.setCell ?_ ?_ _ | refine Ext.trans ?_ (by assumption)))); all_goals (first | (simp; done) | (simp; omega)))⟩

theorem small10_any (W H : Int) (a : Option Addr) (n c : Nat) (w : World) : Calls Try.prog 27 #[.agg #[.int .i64 W, .int .i64 H, .slice a n c]] w fun e w' => e = .returned (.bool (decide ((n : Int) ≤ 150))) ∧ Ext w w' := by
  go_enter Try.func27, Try.ntmps27
  go_wp2
  go_ret
  exact ⟨rfl, (by (with_reducible (repeat' (first | exact Ext.refl _ | assumption | refine Ext.drew ?_ | refine Ext.drewN ?_ _ | refine Ext.alloc ?_ _ | refine Ext.setCell ?_ ?_ _ | refine Ext.trans ?_ (by assumption)))); all_goals (first | (simp; done) | (simp; omega)))⟩

set_option maxHeartbeats 400000 in
theorem cells10_some {w : World} {va vb : Value} {l : List Cell} (hl : l.length ≤ 1000000) (h0 : 0 < l.length) (ha : Reads cellE w va l) (hb : Reads cellE w vb l) :
    Calls Try.prog 32 #[va, vb] w fun e w' => e = .returned (.bool true) ∧ Ext w w' := by
  obtain ⟨b, off, c, rfl, hb1, h1⟩ := reads_cell ha h0
  obtain ⟨b', off', c', rfl, hb2, h2⟩ := reads_cell hb h0
  have H1 := hide h1
  have H2 := hide h2
  clear h1 h2 ha hb
  go_enter Try.func32, Try.ntmps32
  go_wp2
  go_loopw [5] (fun i wr => ∃ k : Nat, k ≤ l.length ∧ i = .int .i64 k ∧ Ext w wr) (fun i _ => l.length - (intOf i).toNat)
  case atStart => exact ⟨0, Nat.zero_le _, rfl, (by (with_reducible (repeat' (first | exact Ext.refl _ | assumption | refine Ext.drew ?_ | refine Ext.drewN ?_ _ | refine Ext.alloc ?_ _ | refine Ext.setCell ?_ ?_ _ | refine Ext.trans ?_ (by assumption)))); all_goals (first | (simp; done) | (simp; omega)))⟩
  case round =>
    obtain ⟨k, hk, rfl, hext⟩ := hrel
    by_cases hlt : k < l.length
    · obtain ⟨p, hp⟩ : ∃ p, l[k]? = some p := ⟨_, List.getElem?_eq_getElem hlt⟩
      have d1 := (hext.cell (p := ⟨b, off + k * 2, none⟩) hb1).trans (H1.out k p hp).1
      have d2 := (hext.cell (p := ⟨b, off + k * 2 + 1, none⟩) hb1).trans (H1.out k p hp).2
      have d3 := (hext.cell (p := ⟨b', off' + k * 2, none⟩) hb2).trans (H2.out k p hp).1
      have d4 := (hext.cell (p := ⟨b', off' + k * 2 + 1, none⟩) hb2).trans (H2.out k p hp).2
      have hq1 : ∀ w, (Op.equalIn 10000 49 (.agg #[.int .i64 p.1, .int .i64 p.2]) (.agg #[.int .i64 p.1, .int .i64 p.2])).run Try.prog w = .ok true w := fun w => by rw [eq_cell p p w]; simp [cellB]
      clear hp
      go_wp2
      go_quiet (fail)
      go_wp2
      go_roundw
      case rel => exact ⟨k + 1, by omega, by go_num, (by (with_reducible (repeat' (first | exact Ext.refl _ | assumption | refine Ext.drew ?_ | refine Ext.drewN ?_ _ | refine Ext.alloc ?_ _ | refine Ext.setCell ?_ ?_ _ | refine Ext.trans ?_ (by assumption)))); all_goals (first | (simp; done) | (simp; omega)))⟩
      case measure => simp [intOf]; omega
    · go_wp2
      go_ret
      exact ⟨rfl, (by (with_reducible (repeat' (first | exact Ext.refl _ | assumption | refine Ext.drew ?_ | refine Ext.drewN ?_ _ | refine Ext.alloc ?_ _ | refine Ext.setCell ?_ ?_ _ | refine Ext.trans ?_ (by assumption)))); all_goals (first | (simp; done) | (simp; omega)))⟩
theorem cells10_none (a b : Option Addr) (c d : Nat) (w : World) : Calls Try.prog 32 #[.slice a 0 c, .slice b 0 d] w fun e w' => e = .returned (.bool true) ∧ Ext w w' := by
  go_enter Try.func32, Try.ntmps32
  go_wp2
  go_loopw [5] (fun i wr => i = .int .i64 0 ∧ Ext w wr) (fun i _ => 0)
  case atStart => exact ⟨rfl, (by (with_reducible (repeat' (first | exact Ext.refl _ | assumption | refine Ext.drew ?_ | refine Ext.drewN ?_ _ | refine Ext.alloc ?_ _ | refine Ext.setCell ?_ ?_ _ | refine Ext.trans ?_ (by assumption)))); all_goals (first | (simp; done) | (simp; omega)))⟩
  case round =>
    obtain ⟨rfl, hext⟩ := hrel
    go_wp2
    go_ret
    exact ⟨rfl, (by (with_reducible (repeat' (first | exact Ext.refl _ | assumption | refine Ext.drew ?_ | refine Ext.drewN ?_ _ | refine Ext.alloc ?_ _ | refine Ext.setCell ?_ ?_ _ | refine Ext.trans ?_ (by assumption)))); all_goals (first | (simp; done) | (simp; omega)))⟩
theorem cells10_any {w : World} {va vb : Value} {l : List Cell} (hl : l.length ≤ 1000000) (ha : Reads cellE w va l) (hb : Reads cellE w vb l) :
    Calls Try.prog 32 #[va, vb] w fun e w' => e = .returned (.bool true) ∧ Ext w w' := by
  by_cases h0 : 0 < l.length
  · exact cells10_some hl h0 ha hb
  · obtain ⟨a, c, rfl⟩ := ha.slice
    obtain ⟨b, d, rfl⟩ := hb.slice
    rw [show l.length = 0 by omega]
    exact cells10_none a b c d w
end Go.Proofs.Ytkonojjillcfiaa

/- The example of chapter 10. -/
namespace Go.Proofs.Ytkonojjillcfiaa
open Go.RowKit

def awA : List Int := [1, 1, 1, 1, 1, 1, 1, 1, 1]
def awB : List Int := [1, 0, 1, 1, 1, 1, 1, 1, 1]
theorem awA_land : LandP 3 3 awA 0 0 3 3 := ⟨by decide, by decide, (by intro x hx; simp [awA] at hx; omega), by decide⟩
theorem awB_land : LandP 3 3 awB 0 0 3 3 := ⟨by decide, by decide, (by intro x hx; simp [awB] at hx; omega), by decide⟩
theorem aw_lt10 (s : Nat) (hs : s < 9) : ∀ u, (start0 s).st u = 1 → u < 9 := fun u hu => by
  have : updN (fun _ => 0) s 1 u = 1 := hu
  unfold updN at this
  split at this
  · omega
  · cases this
theorem aw_adjA : ∀ v m, m ∈ (mapNet awA_land).adj v → m < (mapNet awA_land).n := fun _ m h => (mapNet awA_land).lt m (adj_op awA_land h)
theorem aw_adjB : ∀ v m, m ∈ (mapNet awB_land).adj v → m < (mapNet awB_land).n := fun _ m h => (mapNet awB_land).lt m (adj_op awB_land h)
theorem aw_runA : ARun (mapNet awA_land) 3 (hT 3 2) 2 9 (start0 0) [0, 1, 2] 2 3 0 := runF_ok (k := 20) aw_adjA (aw_lt10 0 (by omega)) (by decide +kernel)
theorem aw_runA2 : ARun (mapNet awA_land) 3 (hT 3 2) 2 2 (start0 0) [] 0 2 23 := runF_ok (k := 20) aw_adjA (aw_lt10 0 (by omega)) (by decide +kernel)
theorem aw_runB : ARun (mapNet awB_land) 3 (hT 3 2) 2 9 (start0 0) [0, 3, 4, 5, 2] 4 5 0 := runF_ok (k := 20) aw_adjB (aw_lt10 0 (by omega)) (by decide +kernel)
theorem aw_srA : Srch 3 3 awA 0 0 2 0 9 [0, 1, 2] 2 3 0 := .inr ⟨by decide, awA_land, .inl ⟨by decide +kernel, by decide +kernel, aw_runA⟩⟩
theorem aw_srA2 : Srch 3 3 awA 0 0 2 0 2 [] 0 2 23 := .inr ⟨by decide, awA_land, .inl ⟨by decide +kernel, by decide +kernel, aw_runA2⟩⟩
theorem aw_srB : Srch 3 3 awB 0 0 2 0 9 [0, 3, 4, 5, 2] 4 5 0 := .inr ⟨by decide, awB_land, .inl ⟨by decide +kernel, by decide +kernel, aw_runB⟩⟩
theorem row9 {w : World} {b : Nat} {a0 a1 a2 a3 a4 a5 a6 a7 a8 : Int} (h : Blk w b 70 #[.int .u16 a0, .int .u16 a1, .int .u16 a2, .int .u16 a3, .int .u16 a4, .int .u16 a5, .int .u16 a6, .int .u16 a7, .int .u16 a8]) : Row16 w (some ⟨b, 0, none⟩) [a0, a1, a2, a3, a4, a5, a6, a7, a8] := fun _ => by
  refine ⟨b, 0, rfl, h.lt, fun k hk => ?_⟩
  have hk6 : k < 9 := hk
  obtain rfl | rfl | rfl | rfl | rfl | rfl | rfl | rfl | rfl : k = 0 ∨ k = 1 ∨ k = 2 ∨ k = 3 ∨ k = 4 ∨ k = 5 ∨ k = 6 ∨ k = 7 ∨ k = 8 := by omega
  · exact h.at 0 rfl
  · exact h.at 1 rfl
  · exact h.at 2 rfl
  · exact h.at 3 rfl
  · exact h.at 4 rfl
  · exact h.at 5 rfl
  · exact h.at 6 rfl
  · exact h.at 7 rfl
  · exact h.at 8 rfl

set_option maxRecDepth 100000 in
set_option maxHeartbeats 1000000 in
theorem awake10_any (w : World) : Calls Try.prog 28 #[] w fun e w' => e = .returned (.bool true) ∧ Ext w w' := by
  have HA := hide (fun (w' : World) (a : Option Addr) (b : Int) (hr : Row16 w' a awA) => sFind_uni (w := w') 3 3 a (l := awA) 9 0 0 2 0 b hr awA_land.u16)
  have HB := hide (fun (w' : World) (a : Option Addr) (b : Int) (hr : Row16 w' a awB) => sFind_uni (w := w') 3 3 a (l := awB) 9 0 0 2 0 b hr awB_land.u16)
  go_enter Try.func28, Try.ntmps28
  go_wp2_with fail
  obtain ⟨w0, hw0⟩ : ∃ w0, w0 = (w.alloc (.cells #[.int .u16 1, .int .u16 1, .int .u16 1, .int .u16 1, .int .u16 1, .int .u16 1, .int .u16 1, .int .u16 1, .int .u16 1] 70)).alloc (.cells #[.int .i64 3, .int .i64 3, .slice (some ⟨w.heap.size, 0, none⟩) 9 9] 26) := ⟨_, rfl⟩
  have hx0 : Ext w w0 := by rw [hw0]; exact (by (with_reducible (repeat' (first | exact Ext.refl _ | assumption | refine Ext.drew ?_ | refine Ext.drewN ?_ _ | refine Ext.alloc ?_ _ | refine Ext.setCell ?_ ?_ _ | refine Ext.trans ?_ (by assumption)))); all_goals (first | (simp; done) | (simp; omega)))
  have R0 := hide (show Blk w0 w.heap.size 70 #[.int .u16 1, .int .u16 1, .int .u16 1, .int .u16 1, .int .u16 1, .int .u16 1, .int .u16 1, .int .u16 1, .int .u16 1] by rw [hw0]; exact (Blk.new_ rfl).over)
  have F0 := hide (show Blk w0 (w.heap.size + 1) 26 #[.int .i64 3, .int .i64 3, .slice (some ⟨w.heap.size, 0, none⟩) 9 9] by rw [hw0]; exact Blk.new_ (by simp))
  rw [← hw0]
  clear hw0
  refine (HA.out w0 _ _ (row9 R0.out)).mono ?_
  rintro e w1 ⟨hx1, p1, c1, k1, e1, v1, hs1, rfl, ho1⟩
  obtain ⟨rfl, rfl, rfl, rfl⟩ := hs1.one aw_srA
  obtain ⟨a1, q1, hv1⟩ : ∃ a q, v1 = .slice a 3 q := ho1.slice
  subst hv1
  have R1 := hide (Blk.ext R0.out hx1)
  have F1 := hide (Blk.ext F0.out hx1)
  have HX1 := hide (hx0.trans hx1)
  have j0 := F1.out.at 0 rfl; have j1 := F1.out.at 1 rfl; have j2 := F1.out.at 2 rfl; have jz := F1.out.lt
  clear hs1 ho1 R0 F0 hx0 hx1
  go_wp2_with fail
  obtain ⟨w2, hw2⟩ : ∃ w2, w2 = w1.alloc (.cells #[.slice a1 3 q1, .int .u64 2, .int .i64 3] 61) := ⟨_, rfl⟩
  have hx2 : Ext w1 w2 := by rw [hw2]; exact (by (with_reducible (repeat' (first | exact Ext.refl _ | assumption | refine Ext.drew ?_ | refine Ext.drewN ?_ _ | refine Ext.alloc ?_ _ | refine Ext.setCell ?_ ?_ _ | refine Ext.trans ?_ (by assumption)))); all_goals (first | (simp; done) | (simp; omega)))
  have A2 := hide (show Blk w2 w1.heap.size 61 #[.slice a1 3 q1, .int .u64 2, .int .i64 3] by rw [hw2]; exact Blk.new_ rfl)
  rw [← hw2]
  clear hw2 j0 j1 j2 jz
  refine (HA.out w2 _ _ (row9 (Blk.ext R1.out hx2))).mono ?_
  rintro e w3 ⟨hx3, p2, c2, k2, e2, v2, hs2, rfl, ho2⟩
  obtain ⟨rfl, rfl, rfl, rfl⟩ := hs2.one aw_srA2
  obtain ⟨a2, q2, hv2⟩ : ∃ a q, v2 = .slice a 0 q := ho2.slice
  subst hv2
  have R3 := hide (Blk.ext R1.out (hx2.trans hx3))
  have F3 := hide (Blk.ext F1.out (hx2.trans hx3))
  have A3 := hide (Blk.ext A2.out hx3)
  have hz0 : w.heap.size + 1 < w1.heap.size := F1.out.lt
  have HX3 := hide (HX1.out.trans (hx2.trans hx3))
  have j0 := F3.out.at 0 rfl; have j1 := F3.out.at 1 rfl; have j2 := F3.out.at 2 rfl; have jz := F3.out.lt
  have r0 := R3.out.at 0 rfl; have r1 := R3.out.at 1 rfl; have r2 := R3.out.at 2 rfl; have r3 := R3.out.at 3 rfl; have r4 := R3.out.at 4 rfl; have r5 := R3.out.at 5 rfl; have r6 := R3.out.at 6 rfl; have r7 := R3.out.at 7 rfl; have r8 := R3.out.at 8 rfl; have rz := R3.out.lt
  have rf := R3.out.frozen 1
  clear hs2 ho2 R1 F1 A2 hx2 hx3 HX1
  go_wp2_with fail
  obtain ⟨w4, hw4⟩ : ∃ w4, w4 = (w3.setCell ⟨w.heap.size, 1, none⟩ (.int .u16 0)).alloc (.cells #[.slice a2 0 q2, .int .u64 0, .int .i64 2] 61) := ⟨_, rfl⟩
  have t4 : Touch (fun k => k = w.heap.size) w3 w4 := by rw [hw4]; exact (Touch.setCell (S := fun k => k = w.heap.size) (p := ⟨w.heap.size, 1, none⟩) (Touch.refl _ w3) (.inl rfl) _).alloc _
  have R4 := hide (show Blk w4 w.heap.size 70 #[.int .u16 1, .int .u16 0, .int .u16 1, .int .u16 1, .int .u16 1, .int .u16 1, .int .u16 1, .int .u16 1, .int .u16 1] by rw [hw4]; exact Blk.over (Blk.set_ R3.out 1 _))
  have hz1 := HX3.out.size
  have hz2 := A3.out.lt
  have F4 := hide (F3.out.touch t4 (by omega))
  have A4 := hide (A3.out.touch t4 (by omega))
  have C4 := hide (show Blk w4 w3.heap.size 61 #[.slice a2 0 q2, .int .u64 0, .int .i64 2] by rw [hw4]; exact Blk.new_ (by simp))
  have hx4 : Ext w w4 := by rw [hw4]; exact (HX3.out.setCell (p := ⟨w.heap.size, 1, none⟩) (Nat.le_refl _) _).alloc _
  have HX4 := hide hx4
  rw [← hw4]
  clear hw4 t4 j0 j1 j2 jz r0 r1 r2 r3 r4 r5 r6 r7 r8 rz rf HX3 hx4 R3 F3 A3
  refine (HB.out w4 _ _ (row9 R4.out)).mono ?_
  rintro e w5 ⟨hx5, p3, c3, k3, e3, v3, hs3, rfl, ho3⟩
  obtain ⟨rfl, rfl, rfl, rfl⟩ := hs3.one aw_srB
  obtain ⟨a3, q3, hv3⟩ : ∃ a q, v3 = .slice a 5 q := ho3.slice
  subst hv3
  have A5 := hide (Blk.ext A4.out hx5)
  have C5 := hide (Blk.ext C4.out hx5)
  have HX5 := hide (HX4.out.trans hx5)
  have hmap : [0, 3, 4, 5, 2].map (cellV 3) = [(0, 0), (0, 1), (1, 1), (2, 1), (2, 0)] := by decide
  have hrd := ho3.reads
  rw [hmap] at hrd
  have O5 := hide hrd
  have u0 := A5.out.at 0 rfl; have u1 := A5.out.at 1 rfl; have u2 := A5.out.at 2 rfl; have uz := A5.out.lt
  have s0 := C5.out.at 0 rfl; have s1 := C5.out.at 1 rfl; have s2 := C5.out.at 2 rfl; have sz := C5.out.lt
  clear hs3 ho3 hmap hrd R4 F4 A4 C4 hx5 HX4
  go_wp2_with fail
  refine (cells10_any (l := [(0, 0), (0, 1), (1, 1), (2, 1), (2, 0)]) (by decide) ?_ ?_).mono ?_
  · exact O5.out.ext (by (with_reducible (repeat' (first | exact Ext.refl _ | assumption | refine Ext.drew ?_ | refine Ext.drewN ?_ _ | refine Ext.alloc ?_ _ | refine Ext.setCell ?_ ?_ _ | refine Ext.trans ?_ (by assumption)))); all_goals (first | (simp; done) | (simp; omega)))
  · exact reads_lit cellE _ _ _ _ rfl _ _ _ (by simp) rfl
  rintro e w6 ⟨rfl, hx6⟩
  have hx56 : Ext w5 w6 := (by (with_reducible (repeat' (first | exact Ext.refl _ | assumption | refine Ext.drew ?_ | refine Ext.drewN ?_ _ | refine Ext.alloc ?_ _ | refine Ext.setCell ?_ ?_ _ | refine Ext.trans ?_ (by assumption)))); all_goals (first | (simp; done) | (simp; omega)))
  clear hx6
  go_wp2
  go_ret
  exact ⟨rfl, HX5.out.trans hx56⟩

end Go.Proofs.Ytkonojjillcfiaa
