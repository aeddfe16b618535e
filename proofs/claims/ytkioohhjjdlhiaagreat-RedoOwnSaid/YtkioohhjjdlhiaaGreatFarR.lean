/- A step, as a place beside one; The reference's way of finding how far all are (rounds of sweeps), in plain words: what a round does, and that after as many rounds as there are places all is right -/
import Derived.Test.YtkioohhjjdlhiaaGreatHeapA
set_option linter.all false
set_option linter.unusedVariables false
set_option linter.unusedSimpArgs false
namespace Go.Proofs.YtkioohhjjdlhiaaGreat
open Go.RowKit

theorem step_dir {k : Nat} (hk : k < 4) (x y : Int) : stepX x (k : Int) = x + dirX k ∧ stepY y (k : Int) = y + dirY k := by
 obtain rfl | rfl | rfl | rfl : k = 0 ∨ k = 1 ∨ k = 2 ∨ k = 3 := by omega
 all_goals (constructor <;> simp [stepX, stepY, dirX, dirY] <;> omega)

section
variable (l : List Int) (W bx byy bw bh : Int)

def relD (far : Nat → Int) (x y : Int) (k : Nat) : Nat → Int :=
 if hasB bx byy bw bh (x + dirX k) (y + dirY k) = true ∧ far (idxN W (x + dirX k, y + dirY k)) ≠ infI ∧ far (idxN W (x + dirX k, y + dirY k)) + costI l W (x, y) < far (idxN W (x, y)) then
  updF far (idxN W (x, y)) (far (idxN W (x + dirX k, y + dirY k)) + costI l W (x, y)) else far
def relC (far : Nat → Int) (x y : Int) : Nat → Nat → Int
 | 0 => far
 | k + 1 => relD l W bx byy bw bh (relC far x y k) x y k
def relCell (far : Nat → Int) (x y : Int) : Nat → Int := if costI l W (x, y) = 0 then far else relC l W bx byy bw bh far x y 4
def relR (far : Nat → Int) (y : Int) : Nat → Nat → Int
 | 0 => far
 | m + 1 => relCell l W bx byy bw bh (relR far y m) (bx + m) y
def relB (far : Nat → Int) : Nat → Nat → Int
 | 0 => far
 | m + 1 => relR l W bx byy bw bh (relB far m) (byy + m) bw.toNat
end

section
variable {l : List Int} {W H bx byy bw bh : Int}

theorem relD_le (far : Nat → Int) (x y : Int) (k v : Nat) : relD l W bx byy bw bh far x y k v ≤ far v := by
 unfold relD
 split
 ·next h =>
  unfold updF
  split
  ·next e => subst e; omega
  ·exact Int.le_refl _
 ·exact Int.le_refl _
theorem relC_le (far : Nat → Int) (x y : Int) (v : Nat) : ∀ k, relC l W bx byy bw bh far x y k v ≤ far v
 | 0 => Int.le_refl _
 | k + 1 => Int.le_trans (relD_le _ x y k v) (relC_le far x y v k)
theorem relCell_le (far : Nat → Int) (x y : Int) (v : Nat) : relCell l W bx byy bw bh far x y v ≤ far v := by
 unfold relCell
 split
 ·exact Int.le_refl _
 ·exact relC_le far x y v 4
theorem relR_le (far : Nat → Int) (y : Int) (v : Nat) : ∀ m, relR l W bx byy bw bh far y m v ≤ far v
 | 0 => Int.le_refl _
 | m + 1 => Int.le_trans (relCell_le _ _ y v) (relR_le far y v m)
theorem relB_le (far : Nat → Int) (v : Nat) : ∀ m, relB l W bx byy bw bh far m v ≤ far v
 | 0 => Int.le_refl _
 | m + 1 => Int.le_trans (relR_le _ _ v _) (relB_le far v m)

/-- None is less than it should be. -/
def LowB (D far : Nat → Int) : Prop := ∀ v, D v ≤ far v

theorem relD_low (L : LandP W H l bx byy bw bh) {s : Nat} {D : Nat → Int} (F : IsFar (mapNet L) s D) {far : Nat → Int} (h : LowB D far) {x y : Int} (hb : hasB bx byy bw bh x y = true) (h0 : 0 < costI l W (x, y)) {k : Nat} (hk : k < 4) (hle : ∀ v, far v ≤ infI) : LowB D (relD l W bx byy bw bh far x y k) := by
 intro v
 unfold relD
 split
 ·next hc =>
  unfold updF
  split
  ·next e =>
   subst e
   obtain ⟨c1, c2, c3⟩ := hc
   have hin := L.in_ hb
   have huI := L.in_ c1
   have ho : openB l W bx byy bw bh x y = true := by unfold openB; rw [hb, decide_eq_true h0]; rfl
   have hov : (mapNet L).op (idxN W (x, y)) = true := by
    show opV _ _ _ _ = true
    rw [L.opV_idx hin]; exact ho
   have hu := h (idxN W (x + dirX k, y + dirY k))
   have hfu := hle (idxN W (x + dirX k, y + dirY k))
   have hfv := hle (idxN W (x, y))
   have hou := F.open_ (v := idxN W (x + dirX k, y + dirY k)) (by omega)
   have hco : (mapNet L).cost (idxN W (x, y)) = costI l W (x, y) := rfl
   by_cases hs : idxN W (x, y) = s
   ·rw [← hs] at F
    rw [F.start hov]
    have := F.nn (idxN W (x + dirX k, y + dirY k))
    omega
   ·have hadj : idxN W (x + dirX k, y + dirY k) ∈ (mapNet L).adj (idxN W (x, y)) := by
     refine List.mem_map.2 ⟨(x + dirX k, y + dirY k), ?_, rfl⟩
     rw [vx_idx hin.1 hin.2.1 hin.2.2.1, vy_idx hin.1 hin.2.1 hin.2.2.1]
     refine mem_nbC.2 ⟨k, hk, ?_, rfl⟩
     have : opV (openB l W bx byy bw bh) W l.length (idxN W (x + dirX k, y + dirY k)) = true := hou
     rw [L.opV_idx huI] at this
     exact this
    have := F.near _ hov hs _ hadj hou (by rw [hco]; omega)
    rw [hco] at this
    omega
  ·exact h v
 ·exact h v
theorem relC_low (L : LandP W H l bx byy bw bh) {s : Nat} {D : Nat → Int} (F : IsFar (mapNet L) s D) {far : Nat → Int} (h : LowB D far) {x y : Int} (hb : hasB bx byy bw bh x y = true) (h0 : 0 < costI l W (x, y)) (hle : ∀ v, far v ≤ infI) : ∀ k, k ≤ 4 → LowB D (relC l W bx byy bw bh far x y k)
 | 0, _ => h
 | k + 1, hk => relD_low L F (relC_low L F h hb h0 hle k (by omega)) hb h0 (by omega) (fun v => Int.le_trans (relC_le far x y v k) (hle v))
theorem relCell_low (L : LandP W H l bx byy bw bh) {s : Nat} {D : Nat → Int} (F : IsFar (mapNet L) s D) {far : Nat → Int} (h : LowB D far) {x y : Int} (hb : hasB bx byy bw bh x y = true) (hle : ∀ v, far v ≤ infI) : LowB D (relCell l W bx byy bw bh far x y) := by
 unfold relCell
 split
 ·exact h
 ·have := (costI_bd L.u16 W (x, y)).1
  exact relC_low L F h hb (by omega) hle 4 (Nat.le_refl _)
theorem box_hasF {m j : Nat} (hm : (m : Int) < bw) (hj : (j : Int) < bh) : hasB bx byy bw bh (bx + m) (byy + j) = true := hasB_true.2 (by omega)
theorem relR_low (L : LandP W H l bx byy bw bh) {s : Nat} {D : Nat → Int} (F : IsFar (mapNet L) s D) {far : Nat → Int} (h : LowB D far) {j : Nat} (hj : (j : Int) < bh) (hle : ∀ v, far v ≤ infI) : ∀ m : Nat, (m : Int) ≤ bw → LowB D (relR l W bx byy bw bh far (byy + j) m)
 | 0, _ => h
 | m + 1, hm => relCell_low L F (relR_low L F h hj hle m (by omega)) (box_hasF (by omega) hj) (fun v => Int.le_trans (relR_le far _ v m) (hle v))
theorem relB_low (L : LandP W H l bx byy bw bh) {s : Nat} {D : Nat → Int} (F : IsFar (mapNet L) s D) {far : Nat → Int} (h : LowB D far) (hle : ∀ v, far v ≤ infI) : ∀ m : Nat, (m : Int) ≤ bh → LowB D (relB l W bx byy bw bh far m)
 | 0, _ => h
 | m + 1, hm => relR_low L F (relB_low L F h hle m (by omega)) (by omega) (fun v => Int.le_trans (relB_le far v m) (hle v)) _ (by have := (fitsR_true.1 L.fits); omega)

/-- Behind a cell's turn it is no further than by way of each cell beside it. -/
theorem relC_near (far : Nat → Int) (x y : Int) {k : Nat} (hb : hasB bx byy bw bh (x + dirX k) (y + dirY k) = true) (hu : far (idxN W (x + dirX k, y + dirY k)) < infI) : ∀ n, k < n → relC l W bx byy bw bh far x y n (idxN W (x, y)) ≤ far (idxN W (x + dirX k, y + dirY k)) + costI l W (x, y)
 | n + 1, hk => by
  by_cases e : k = n
  ·subst e
   have h1 := relC_le (l := l) (W := W) (bx := bx) (byy := byy) (bw := bw) (bh := bh) far x y (idxN W (x + dirX k, y + dirY k)) k
   show relD l W bx byy bw bh (relC l W bx byy bw bh far x y k) x y k _ ≤ _
   unfold relD
   split
   ·rw [updF_same]; omega
   ·next hn =>
    have : ¬ (relC l W bx byy bw bh far x y k (idxN W (x + dirX k, y + dirY k)) + costI l W (x, y) < relC l W bx byy bw bh far x y k (idxN W (x, y))) := fun hlt => hn ⟨hb, by omega, hlt⟩
    omega
  ·exact Int.le_trans (relD_le _ x y n _) (relC_near far x y hb hu n (by omega))
theorem relR_near (far : Nat → Int) (y : Int) {j k : Nat} (hk : k < 4) (hc : costI l W (bx + j, y) ≠ 0) (hb : hasB bx byy bw bh (bx + j + dirX k) (y + dirY k) = true) (hu : far (idxN W (bx + j + dirX k, y + dirY k)) < infI) : ∀ m, j < m → relR l W bx byy bw bh far y m (idxN W (bx + j, y)) ≤ far (idxN W (bx + j + dirX k, y + dirY k)) + costI l W (bx + j, y)
 | m + 1, hm => by
  by_cases e : j = m
  ·subst e
   have h1 := relR_le (l := l) (W := W) (bx := bx) (byy := byy) (bw := bw) (bh := bh) far y (idxN W (bx + j + dirX k, y + dirY k)) j
   show relCell l W bx byy bw bh (relR l W bx byy bw bh far y j) (bx + j) y _ ≤ _
   unfold relCell
   rw [if_neg hc]
   exact Int.le_trans (relC_near _ _ _ hb (by omega) 4 hk) (by omega)
  ·exact Int.le_trans (relCell_le _ _ y _) (relR_near far y hk hc hb hu m (by omega))
theorem relB_near (far : Nat → Int) {i j k : Nat} (hk : k < 4) (hi : (i : Int) < bw) (hc : costI l W (bx + i, byy + j) ≠ 0) (hb : hasB bx byy bw bh (bx + i + dirX k) (byy + j + dirY k) = true) (hu : far (idxN W (bx + i + dirX k, byy + j + dirY k)) < infI) : ∀ m, j < m → relB l W bx byy bw bh far m (idxN W (bx + i, byy + j)) ≤ far (idxN W (bx + i + dirX k, byy + j + dirY k)) + costI l W (bx + i, byy + j)
 | m + 1, hm => by
  by_cases e : j = m
  ·subst e
   have h1 := relB_le (l := l) (W := W) (bx := bx) (byy := byy) (bw := bw) (bh := bh) far (idxN W (bx + i + dirX k, byy + j + dirY k)) j
   exact Int.le_trans (relR_near _ _ hk hc hb (by omega) bw.toNat (by omega)) (by omega)
  ·exact Int.le_trans (relR_le _ _ _ _) (relB_near far hk hi hc hb hu m (by omega))

/-- A whole round. -/
def rnd (l : List Int) (W bx byy bw bh : Int) (far : Nat → Int) : Nat → Int := relB l W bx byy bw bh far bh.toNat

theorem rnd_near (L : LandP W H l bx byy bw bh) (far : Nat → Int) {u v : Nat} (hv : (mapNet L).op v = true) (hu : u ∈ (mapNet L).adj v) (hf : far u < infI) : rnd l W bx byy bw bh far v ≤ far u + (mapNet L).cost v := by
 obtain ⟨p, hp, rfl⟩ := List.mem_map.1 hu
 obtain ⟨k, hk, ho, rfl⟩ := mem_nbC.1 hp
 have hvl := (mapNet L).lt v hv
 have hv' : opV (openB l W bx byy bw bh) W l.length v = true := hv
 unfold opV at hv'
 simp only [Bool.and_eq_true] at hv'
 have h1 := open_has hv'.2
 have h2 := hasB_true.1 h1.1
 have hkb := (open_has ho).1
 obtain ⟨i, hi⟩ : ∃ i : Nat, vx W v = bx + i := ⟨(vx W v - bx).toNat, by omega⟩
 obtain ⟨j, hj⟩ : ∃ j : Nat, vy W v = byy + j := ⟨(vy W v - byy).toNat, by omega⟩
 have hid := idx_v L.wh.1 v
 have hco : (mapNet L).cost v = costI l W (bx + i, byy + j) := by
  rw [cost_idx, ← hi, ← hj, hid]; rfl
 rw [hco]
 rw [hi, hj] at hf hkb h1 hid ⊢
 have := relB_near (l := l) (W := W) (bx := bx) (byy := byy) (bw := bw) (bh := bh) far (i := i) (j := j) hk (by omega) (by omega) hkb hf bh.toNat (by omega)
 rw [hid] at this
 exact this

theorem count_lt {α : Type} {p q : α → Bool} : ∀ {l : List α}, (∀ a ∈ l, p a = true → q a = true) → (∃ a ∈ l, q a = true ∧ p a = false) → l.countP p < l.countP q
 | [], _, ⟨a, h, _⟩ => by cases h
 | b :: l, hpq, ⟨a, ha, hq, hp⟩ => by
  rw [List.countP_cons, List.countP_cons]
  have hmono : l.countP p ≤ l.countP q := List.countP_mono_left fun x hx => hpq x (List.mem_cons_of_mem _ hx)
  by_cases hab : a = b
  ·subst hab
   rw [hq, hp]; simp; omega
  ·have hal : a ∈ l := by
    rcases List.mem_cons.1 ha with h | h
    ·exact absurd h hab
    ·exact h
   have := count_lt (fun x hx => hpq x (List.mem_cons_of_mem _ hx)) ⟨a, hal, hq, hp⟩
   have hb := hpq b List.mem_cons_self
   cases h : p b
   ·split <;> split <;> simp_all <;> omega
   ·rw [hb h]; simp; omega

/-- How many are right already. -/
def rightN (n : Nat) (D far : Nat → Int) : Nat := (List.range n).countP fun v => decide (far v = D v)

theorem rightN_le (n : Nat) (D far : Nat → Int) : rightN n D far ≤ n := by
 have := List.countP_le_length (p := fun v => decide (far v = D v)) (l := List.range n)
 rw [List.length_range] at this
 exact this

/-- Of those that are not right yet one of the least becomes right in a round. -/
theorem rnd_grows (L : LandP W H l bx byy bw bh) {s : Nat} {D : Nat → Int} (F : IsFar (mapNet L) s D) {far : Nat → Int} (h : LowB D far) (hle : ∀ v, far v ≤ infI) (hs : far s = D s) (hne : ∃ v, far v ≠ D v) : rightN l.length D far < rightN l.length D (rnd l W bx byy bw bh far) := by
 have hfin : ∀ v, far v ≠ D v → D v < infI := fun v hv => by
  have h1 := h v
  have h2 := hle v
  omega
 have hlow : LowB D (rnd l W bx byy bw bh far) := relB_low L F h hle _ (by have := (fitsR_true.1 L.fits); omega)
 obtain ⟨v, hv, hmin⟩ : ∃ v, far v ≠ D v ∧ ∀ u, far u ≠ D u → D v ≤ D u := by
  obtain ⟨v0, h0⟩ := hne
  have : ∀ k : Nat, ∀ v, far v ≠ D v → D v = (k : Int) → ∃ v, far v ≠ D v ∧ ∀ u, far u ≠ D u → D v ≤ D u := by
   intro k
   induction k using Nat.strongRecOn with
   | _ k ih =>
    intro v hv hk
    by_cases hex : ∃ u, far u ≠ D u ∧ D u < D v
    ·obtain ⟨u, hu, hlt⟩ := hex
     exact ih (D u).toNat (by have := F.nn u; omega) u hu (by have := F.nn u; omega)
    ·exact ⟨v, hv, fun u hu => Int.not_lt.1 fun hlt => hex ⟨u, hu, hlt⟩⟩
  exact this (D v0).toNat v0 h0 (by have := F.nn v0; omega)
 have hvf := hfin v hv
 have hov := F.open_ hvf
 have hvs : v ≠ s := fun e => hv (e ▸ hs)
 obtain ⟨u, hu, huo, he⟩ := F.from_ v hov hvs hvf
 have hc := (mapNet L).pos v hov
 have huR : far u = D u := by
  by_cases e : far u = D u
  ·exact e
  ·have := hmin u e
   omega
 have hn := rnd_near L far hov hu (by omega)
 have hlt : v < l.length := (mapNet L).lt v hov
 refine count_lt (fun x _ hx => ?_) ⟨v, List.mem_range.2 hlt, ?_, by simpa using hv⟩
 ·simp only [decide_eq_true_eq] at hx ⊢
  have h1 := relB_le (l := l) (W := W) (bx := bx) (byy := byy) (bw := bw) (bh := bh) far x bh.toNat
  have h2 := hlow x
  show relB l W bx byy bw bh far bh.toNat x = D x
  unfold rnd at h2
  omega
 ·simp only [decide_eq_true_eq]
  have h2 := hlow v
  omega

/-- What the rounds keep: r rounds are done. -/
structure Rnds (D far : Nat → Int) (s n r : Nat) : Prop where
 low : LowB D far
 le : ∀ v, far v ≤ infI
 at_ : far s = D s
 many : (∀ v, far v = D v) ∨ r + 1 ≤ rightN n D far

theorem Rnds.start (L : LandP W H l bx byy bw bh) {s : Nat} {D : Nat → Int} (F : IsFar (mapNet L) s D) (ho : (mapNet L).op s = true) : Rnds D (updF (fun _ => infI) s 0) s l.length 0 where
 low v := by
  unfold updF
  split
  ·next e => subst e; rw [F.start ho]; exact Int.le_refl _
  ·exact F.le v
 le v := by
  unfold updF
  split
  ·decide
  ·exact Int.le_refl _
 at_ := by rw [updF_same, F.start ho]
 many := by
  right
  have : 0 < rightN l.length D (updF (fun _ => infI) s 0) := by
   refine List.countP_pos_iff.2 ⟨s, List.mem_range.2 ((mapNet L).lt s ho), ?_⟩
   rw [updF_same, F.start ho]; rfl
  omega
theorem Rnds.next (L : LandP W H l bx byy bw bh) {s r : Nat} {D far : Nat → Int} (F : IsFar (mapNet L) s D) (h : Rnds D far s l.length r) : Rnds D (rnd l W bx byy bw bh far) s l.length (r + 1) := by
 have hbh := (fitsR_true.1 L.fits)
 have hlow : LowB D (rnd l W bx byy bw bh far) := relB_low L F h.low h.le _ (by omega)
 have hle : ∀ v, rnd l W bx byy bw bh far v ≤ far v := fun v => relB_le far v _
 refine ⟨hlow, fun v => Int.le_trans (hle v) (h.le v), ?_, ?_⟩
 ·have h1 := hle s
  have h2 := hlow s
  have := h.at_
  omega
 ·by_cases hd : ∀ v, far v = D v
  ·left
   intro v
   have h1 := hle v
   have h2 := hlow v
   have := hd v
   omega
  ·right
   have hne : ∃ v, far v ≠ D v := by simpa using hd
   have := rnd_grows L F h.low h.le h.at_ hne
   rcases h.many with hm | hm
   ·exact absurd hm hd
   ·omega
theorem Rnds.still (L : LandP W H l bx byy bw bh) {s r : Nat} {D far : Nat → Int} (F : IsFar (mapNet L) s D) (h : Rnds D far s l.length r) (he : ∀ v, rnd l W bx byy bw bh far v = far v) : ∀ v, far v = D v := by
 by_cases hd : ∀ v, far v = D v
 ·exact hd
 ·have hne : ∃ v, far v ≠ D v := by simpa using hd
  have := rnd_grows L F h.low h.le h.at_ hne
  rw [show rnd l W bx byy bw bh far = far from funext he] at this
  omega
theorem Rnds.full {s n : Nat} {D far : Nat → Int} (h : Rnds D far s n n) : ∀ v, far v = D v := by
 rcases h.many with hm | hm
 ·exact hm
 ·have := rightN_le n D far
  omega

/-- No sum overflows: what is reached is not far. -/
def BdT (T : Nat) (far : Nat → Int) : Prop := ∀ v, 0 ≤ far v ∧ far v ≤ infI ∧ (far v < infI → far v ≤ 65535 * (T : Int))
theorem BdT.mono {T T' : Nat} {far : Nat → Int} (h : BdT T far) (ht : T ≤ T') : BdT T' far := fun v => ⟨(h v).1, (h v).2.1, fun hv => by have := (h v).2.2 hv; omega⟩
theorem BdT.relD (hu : U16s l) {T : Nat} {far : Nat → Int} (h : BdT T far) (ht : T < 100000000000) (x y : Int) (k : Nat) : BdT (T + 1) (relD l W bx byy bw bh far x y k) := by
 intro v
 have hc := costI_bd hu W (x, y)
 unfold Go.Proofs.YtkioohhjjdlhiaaGreat.relD
 split
 ·next hk =>
  unfold updF
  split
  ·have h1 := h (idxN W (x + dirX k, y + dirY k))
   have h2 := h1.2.2 (by omega)
   have e : infI = 18446744073709551615 := rfl
   refine ⟨by omega, by omega, fun _ => by omega⟩
  ·exact (h.mono (Nat.le_succ T)) v
 ·exact (h.mono (Nat.le_succ T)) v
theorem BdT.sum (hu : U16s l) {T : Nat} {far : Nat → Int} (h : BdT T far) (ht : T < 100000000000) {u : Nat} (hf : far u ≠ infI) (x y : Int) : far u + costI l W (x, y) < 18446744073709551616 := by
 have hc := costI_bd hu W (x, y)
 have h1 := h u
 have h2 := h1.2.2 (by omega)
 omega
end
end Go.Proofs.YtkioohhjjdlhiaaGreat
