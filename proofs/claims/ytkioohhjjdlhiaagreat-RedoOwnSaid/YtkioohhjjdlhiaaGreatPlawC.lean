/- Plain laws: cells side by side of two clusters: how the clusters lie, and which pairs their border has; Plain words for the references Beside and Border: which clusters are found, which pairs; Plain laws: the references' Beside and Border are the clusters beside one, and the pairs along a border; The walk of the reference's Border: the pairs of cells beside one another of two clusters; The walk of part's Border: where there is one; What the laws on borders share -/
import Derived.Test.YtkioohhjjdlhiaaGreatRefC
import Derived.Test.YtkioohhjjdlhiaaGreatPartB
set_option linter.all false
set_option linter.unusedVariables false
set_option linter.unusedSimpArgs false
namespace Go.Proofs.YtkioohhjjdlhiaaGreat
open Go.RowKit

/-- p is left of q, or above it. -/
def Left (p q : Cell) : Prop := q.1 = p.1 + 1 ∧ q.2 = p.2
def Above (p q : Cell) : Prop := q.1 = p.1 ∧ q.2 = p.2 + 1

theorem div_next {x s : Int} (hs : 1 ≤ s) (hne : (x + 1) / s ≠ x / s) : (x + 1) / s = x / s + 1 ∧ (x + 1) / s * s = x + 1 := by
 have q1 := Int.emod_add_mul_ediv x s
 have q2 := Int.emod_lt_of_pos x (show 0 < s by omega)
 have q3 : 0 ≤ x % s := Int.emod_nonneg _ (by omega)
 rw [Int.mul_comm] at q1
 by_cases h : x % s + 1 < s
 ·exact absurd (div_uniq (u := x / s) (by omega) (by omega) (by omega)) hne
 ·have e : (x / s + 1) * s = x / s * s + s := by rw [Int.add_mul]; omega
  have : (x + 1) / s = x / s + 1 := div_uniq (by omega) (by omega) (by omega)
  exact ⟨this, by rw [this]; omega⟩

theorem mod_div_of {W s x y : Int} (h1 : 0 ≤ x / s) (h2 : x / s < acr W s) : ofN W s x y % acr W s = x / s ∧ ofN W s x y / acr W s = y / s := by
 unfold ofN
 constructor
 ·rw [Int.add_comm, Int.add_mul_emod_self_right]
  exact Int.emod_eq_of_lt h1 h2
 ·rw [Int.add_comm, Int.add_mul_ediv_right _ _ (by omega), Int.ediv_eq_zero_of_lt h1 h2]
  omega

theorem left_of {W H s : Int} {p q : Cell} (hr : rightB W H s = true) (hp : inB W H p.1 p.2 = true) (hq : inB W H q.1 q.2 = true) (hl : Left p q) (hne : ofN W s p.1 p.2 ≠ ofN W s q.1 q.2) :
  ofN W s q.1 q.2 = ofN W s p.1 p.2 + 1 ∧ ofN W s p.1 p.2 % acr W s < acr W s - 1 ∧ boxX W s (ofN W s q.1 q.2) = q.1 := by
 obtain ⟨h1, h2, h3, h4, h5, h6⟩ := rightB_true.1 hr
 obtain ⟨_, _, _, _, i1, i2, i3, i4⟩ := inB_true.1 hp
 obtain ⟨_, _, _, _, j1, j2, j3, j4⟩ := inB_true.1 hq
 obtain ⟨l1, l2⟩ := hl
 have a1 := x_lt_acr (W := W) (s := s) (by omega) i1 i2
 have a2 := Int.ediv_nonneg i1 (show 0 ≤ s by omega)
 have b1 := x_lt_acr (W := W) (s := s) (by omega) j1 j2
 have b2 := Int.ediv_nonneg j1 (show 0 ≤ s by omega)
 have mp := mod_div_of (y := p.2) a2 a1
 have mq := mod_div_of (y := q.2) b2 b1
 have hne' : (p.1 + 1) / s ≠ p.1 / s := by
  intro e
  apply hne
  unfold ofN
  rw [l1, l2, e]
 have dn := div_next (by omega) hne'
 rw [← l1] at dn
 refine ⟨?_, ?_, ?_⟩
 ·unfold ofN; rw [dn.1, l2]; omega
 ·rw [mp.1]; omega
 ·unfold boxX; rw [mq.1]; exact dn.2

theorem above_of {W H s : Int} {p q : Cell} (hr : rightB W H s = true) (hp : inB W H p.1 p.2 = true) (hq : inB W H q.1 q.2 = true) (hl : Above p q) (hne : ofN W s p.1 p.2 ≠ ofN W s q.1 q.2) :
  ofN W s q.1 q.2 = ofN W s p.1 p.2 + acr W s ∧ boxY W s (ofN W s q.1 q.2) = q.2 := by
 obtain ⟨h1, h2, h3, h4, h5, h6⟩ := rightB_true.1 hr
 obtain ⟨_, _, _, _, i1, i2, i3, i4⟩ := inB_true.1 hp
 obtain ⟨_, _, _, _, j1, j2, j3, j4⟩ := inB_true.1 hq
 obtain ⟨l1, l2⟩ := hl
 have b1 := x_lt_acr (W := W) (s := s) (by omega) j1 j2
 have b2 := Int.ediv_nonneg j1 (show 0 ≤ s by omega)
 have mq := mod_div_of (y := q.2) b2 b1
 have hne' : (p.2 + 1) / s ≠ p.2 / s := by
  intro e
  apply hne
  unfold ofN
  rw [l1, l2, e]
 have dn := div_next (by omega) hne'
 rw [← l2] at dn
 refine ⟨?_, ?_⟩
 ·unfold ofN; rw [dn.1, l1, Int.add_mul]; omega
 ·unfold boxY; rw [mq.2]; exact dn.2

theorem mem_opt {b : Bool} {n x : Int} : x ∈ opt b n ↔ b = true ∧ x = n := by cases b <;> simp [opt]
theorem count_opt (b : Bool) (n x : Int) : (opt b n).count x = if b = true ∧ x = n then 1 else 0 := by
 cases b
 ·simp [opt]
 ·simp only [opt, if_true, List.count_cons, List.count_nil, true_and]
  by_cases h : n = x
  ·simp [h]
  ·have h' : ¬ x = n := fun e => h e.symm
   simp [h, h']

theorem hasI_iff {l : List Int} {x : Int} : hasI l x = true ↔ x ∈ l := by simp [hasI]

theorem beside_mem {W H s id x : Int} : x ∈ besideL W H s id ↔ (acr W s ≤ id ∧ x = id - acr W s) ∨ (id % acr W s < acr W s - 1 ∧ x = id + 1) ∨ (id + acr W s < cnt W H s ∧ x = id + acr W s) ∨ (0 < id % acr W s ∧ x = id - 1) := by
 simp only [besideL, List.mem_append, mem_opt, decide_eq_true_eq]
 constructor
 ·rintro (((h | h) | h) | h)
  ·exact .inl h
  ·exact .inr (.inl h)
  ·exact .inr (.inr (.inl h))
  ·exact .inr (.inr (.inr h))
 ·rintro (h | h | h | h)
  ·exact .inl (.inl (.inl h))
  ·exact .inl (.inl (.inr h))
  ·exact .inl (.inr h)
  ·exact .inr h

/-- No cluster is beside another one twice. -/
theorem beside_once {W H s id x : Int} (ha : 1 ≤ acr W s) (h : x ∈ besideL W H s id) : (besideL W H s id).count x = 1 := by
 rw [beside_mem] at h
 have m0 : 0 ≤ id % acr W s := Int.emod_nonneg _ (by omega)
 have m1 := Int.emod_lt_of_pos id (show 0 < acr W s by omega)
 simp only [besideL, List.count_append, count_opt, decide_eq_true_eq]
 generalize acr W s = a at *
 generalize id % a = m at *
 rcases h with h | h | h | h
 all_goals
  (repeat' split) <;> omega

/-! ### What a border is made of -/

theorem sideL_at (X Y : Int) (n k : Nat) (h : k < n) : (sideL X Y n)[k]? = some ((X - 1, Y + (k : Int)), (X, Y + (k : Int))) := by
 simp [sideL, List.getElem?_map, List.getElem?_range h]
theorem lowL_at (X Y : Int) (n k : Nat) (h : k < n) : (lowL X Y n)[k]? = some ((X + (k : Int), Y - 1), (X + (k : Int), Y)) := by
 simp [lowL, List.getElem?_map, List.getElem?_range h]

theorem in_box {W H s : Int} (hr : rightB W H s = true) {id : Int} (h0 : 0 ≤ id) (hid : id < cnt W H s) {x y : Int} (hx : boxX W s id ≤ x ∧ x < boxX W s id + boxW W s id) (hy : boxY W s id ≤ y ∧ y < boxY W s id + boxH W H s id) :
  inB W H x y = true ∧ ofN W s x y = id := by
 obtain ⟨h1, h2, h3, h4, h5, h6⟩ := rightB_true.1 hr
 have bb := box_bd hr h0 hid
 have hh : hasP x y (boxP W H s id) = true := by
  unfold hasP boxP; rw [hasB_true]; exact ⟨hx.1, hx.2, hy.1, hy.2⟩
 unfold boxW at hx
 unfold boxH at hy
 have hin : inB W H x y = true := inB_true.2 ⟨by omega, by omega, by omega, by omega, by omega, by omega, by omega, by omega⟩
 exact ⟨hin, ((hasP_box hr hin h0 hid).1 hh).symm⟩

/-- How two clusters side by side lie: lo is left of hi, or above it. -/
structure Pair (W H s lo hi : Int) : Prop where
 lo0 : 0 ≤ lo
 hi1 : hi < cnt W H s
 way : (hi = lo + 1 ∧ lo % acr W s < acr W s - 1) ∨ hi = lo + acr W s

theorem Pair.lt {W H s lo hi : Int} (hr : rightB W H s = true) (h : Pair W H s lo hi) : lo < hi := by
 obtain ⟨h1, h2, h3, h4, h5, h6⟩ := rightB_true.1 hr
 have b1 := acr_bd W s h5 h6 h1 h2
 rcases h.way with h | h <;> omega

theorem Pair.right {W H s lo : Int} (hr : rightB W H s = true) (h0 : 0 ≤ lo) (hw : lo % acr W s < acr W s - 1) :
  boxX W s (lo + 1) = boxX W s lo + s ∧ boxY W s (lo + 1) = boxY W s lo := by
 obtain ⟨h1, h2, h3, h4, h5, h6⟩ := rightB_true.1 hr
 have b1 := acr_bd W s h5 h6 h1 h2
 have e := Int.emod_add_mul_ediv lo (acr W s)
 have m0 : 0 ≤ lo % acr W s := Int.emod_nonneg _ (by omega)
 have hm : (lo + 1) % acr W s = lo % acr W s + 1 := by
  have : lo + 1 = (lo % acr W s + 1) + acr W s * (lo / acr W s) := by omega
  rw [this, Int.add_mul_emod_self_left]
  exact Int.emod_eq_of_lt (by omega) (by omega)
 have hd : (lo + 1) / acr W s = lo / acr W s := by
  have : lo + 1 = (lo % acr W s + 1) + acr W s * (lo / acr W s) := by omega
  rw [this, Int.add_mul_ediv_left _ _ (by omega), Int.ediv_eq_zero_of_lt (by omega) (by omega)]
  omega
 unfold boxX boxY
 rw [hm, hd, Int.add_mul]
 omega

theorem Pair.low {W H s lo : Int} (hr : rightB W H s = true) : boxX W s (lo + acr W s) = boxX W s lo ∧ boxY W s (lo + acr W s) = boxY W s lo + s := by
 obtain ⟨h1, h2, h3, h4, h5, h6⟩ := rightB_true.1 hr
 have b1 := acr_bd W s h5 h6 h1 h2
 unfold boxX boxY
 have hm : (lo + acr W s) % acr W s = lo % acr W s := Int.add_emod_right _ _
 have hd : (lo + acr W s) / acr W s = lo / acr W s + 1 := by
  have := Int.add_mul_ediv_right lo 1 (show acr W s ≠ 0 by omega)
  rwa [Int.one_mul] at this
 rw [hm, hd, Int.add_mul]
 omega

/-- The k-th pair of the border of two clusters that lie so. -/
theorem border_at {W H s lo hi : Int} (hr : rightB W H s = true) (h : Pair W H s lo hi) {k : Nat} {p : Cell × Cell} (hk : (borderL W H s lo hi)[k]? = some p) :
  inB W H p.1.1 p.1.2 = true ∧ inB W H p.2.1 p.2.2 = true ∧ ofN W s p.1.1 p.1.2 = lo ∧ ofN W s p.2.1 p.2.2 = hi ∧
  ((hi = lo + 1 ∧ lo % acr W s < acr W s - 1 ∧ p = ((boxX W s hi - 1, boxY W s lo + (k : Int)), (boxX W s hi, boxY W s lo + (k : Int))) ∧ (k : Int) < boxH W H s lo) ∨
   (boxY W s lo ≠ boxY W s hi ∧ p = ((boxX W s lo + (k : Int), boxY W s hi - 1), (boxX W s lo + (k : Int), boxY W s hi)) ∧ (k : Int) < boxW W s lo)) := by
 obtain ⟨h1, h2, h3, h4, h5, h6⟩ := rightB_true.1 hr
 have b1 := acr_bd W s h5 h6 h1 h2
 have hlt := h.lt hr
 have zl := box_sz hr h.lo0 (by have := h.hi1; omega)
 have zh := box_sz hr (id := hi) (by have := h.lo0; omega) h.hi1
 have bl := box_bd hr h.lo0 (by have := h.hi1; omega)
 have bh := box_bd hr (id := hi) (by have := h.lo0; omega) h.hi1
 by_cases hrow : boxY W s lo = boxY W s hi
 ·rcases h.way with ⟨e, hw⟩ | e
  ·have pr := Pair.right hr h.lo0 hw
   rw [← e] at pr
   unfold borderL at hk
   rw [if_pos hrow] at hk
   have hkn : k < (boxH W H s lo).toNat := by
    have := (List.getElem?_eq_some_iff.1 hk).1
    rwa [sideL_len] at this
   rw [sideL_at _ _ _ _ hkn] at hk
   have hp := (Option.some.inj hk).symm
   subst hp
   have hkH : (k : Int) < boxH W H s lo := by omega
   have A := in_box hr h.lo0 (by have := h.hi1; omega) (x := boxX W s hi - 1) (y := boxY W s lo + (k : Int)) ⟨by omega, by unfold boxW; omega⟩ ⟨by omega, by omega⟩
   have B := in_box hr (id := hi) (by have := h.lo0; omega) h.hi1 (x := boxX W s hi) (y := boxY W s lo + (k : Int)) ⟨by omega, by omega⟩ ⟨by omega, by unfold boxH at hkH ⊢; rw [← hrow]; omega⟩
   exact ⟨A.1, B.1, A.2, B.2, .inl ⟨e, hw, rfl, hkH⟩⟩
  ·have pl := Pair.low (lo := lo) hr
   rw [← e] at pl
   omega
 ·have e : hi = lo + acr W s := by
   rcases h.way with ⟨e, hw⟩ | e
   ·have pr := Pair.right hr h.lo0 hw
    rw [← e] at pr
    exact absurd pr.2.symm hrow
   ·exact e
  have pl := Pair.low (lo := lo) hr
  rw [← e] at pl
  unfold borderL at hk
  rw [if_neg hrow] at hk
  have hkn : k < (boxW W s lo).toNat := by
   have := (List.getElem?_eq_some_iff.1 hk).1
   rwa [lowL_len] at this
  rw [lowL_at _ _ _ _ hkn] at hk
  have hp := (Option.some.inj hk).symm
  subst hp
  have hkW : (k : Int) < boxW W s lo := by omega
  have A := in_box hr h.lo0 (by have := h.hi1; omega) (x := boxX W s lo + (k : Int)) (y := boxY W s hi - 1) ⟨by omega, by omega⟩ ⟨by omega, by unfold boxH; omega⟩
  have B := in_box hr (id := hi) (by have := h.lo0; omega) h.hi1 (x := boxX W s lo + (k : Int)) (y := boxY W s hi) ⟨by omega, by unfold boxW at hkW ⊢; rw [pl.1]; omega⟩ ⟨by omega, by omega⟩
  exact ⟨A.1, B.1, A.2, B.2, .inr ⟨hrow, rfl, hkW⟩⟩

theorem box_has {W H s : Int} {p : Cell} (hr : rightB W H s = true) (hp : inB W H p.1 p.2 = true) :
  boxX W s (ofN W s p.1 p.2) ≤ p.1 ∧ p.1 < boxX W s (ofN W s p.1 p.2) + boxW W s (ofN W s p.1 p.2) ∧ boxY W s (ofN W s p.1 p.2) ≤ p.2 ∧ p.2 < boxY W s (ofN W s p.1 p.2) + boxH W H s (ofN W s p.1 p.2) := by
 have ob := ofN_bd hr hp
 have h := (hasP_box hr hp ob.1 ob.2).2 rfl
 unfold hasP boxP at h
 exact hasB_true.1 h

/-- Two cells side by side of two clusters: how these lie, and the one place of the pair in their border. -/
theorem border_has {W H s : Int} {p q : Cell} (hr : rightB W H s = true) (hp : inB W H p.1 p.2 = true) (hq : inB W H q.1 q.2 = true) (hl : Left p q ∨ Above p q) (hne : ofN W s p.1 p.2 ≠ ofN W s q.1 q.2) :
  Pair W H s (ofN W s p.1 p.2) (ofN W s q.1 q.2) ∧ ∃ k0 : Nat, k0 < (borderL W H s (ofN W s p.1 p.2) (ofN W s q.1 q.2)).length ∧ ∀ (j : Nat) (r : Cell × Cell), (borderL W H s (ofN W s p.1 p.2) (ofN W s q.1 q.2))[j]? = some r → (r = (p, q) ↔ j = k0) := by
 obtain ⟨h1, h2, h3, h4, h5, h6⟩ := rightB_true.1 hr
 have b1 := acr_bd W s h5 h6 h1 h2
 have op := ofN_bd hr hp
 have oq := ofN_bd hr hq
 have bp := box_has hr hp
 have bq := box_has hr hq
 obtain ⟨p1, p2⟩ := p
 obtain ⟨q1, q2⟩ := q
 rcases hl with hl | hl
 ·have lf := left_of hr hp hq hl hne
  obtain ⟨l1, l2⟩ := hl
  simp only at *
  generalize hlo : ofN W s p1 p2 = lo at *
  generalize hhi : ofN W s q1 q2 = hi at *
  obtain ⟨e, hw, hX⟩ := lf
  have pr := Pair.right hr op.1 hw
  rw [← e] at pr
  have hrow : boxY W s lo = boxY W s hi := pr.2.symm
  refine ⟨⟨op.1, oq.2, .inl ⟨e, hw⟩⟩, (p2 - boxY W s lo).toNat, ?_, ?_⟩
  ·unfold borderL
   rw [if_pos hrow, sideL_len]
   omega
  ·intro j r hj
   unfold borderL at hj
   rw [if_pos hrow] at hj
   have hjn : j < (boxH W H s lo).toNat := by
    have := (List.getElem?_eq_some_iff.1 hj).1
    rwa [sideL_len] at this
   rw [sideL_at _ _ _ _ hjn] at hj
   have hr' := (Option.some.inj hj).symm
   subst hr'
   simp only [Prod.mk.injEq]
   omega
 ·have lf := above_of hr hp hq hl hne
  obtain ⟨l1, l2⟩ := hl
  simp only at *
  generalize hlo : ofN W s p1 p2 = lo at *
  generalize hhi : ofN W s q1 q2 = hi at *
  obtain ⟨e, hY⟩ := lf
  have pl := Pair.low (lo := lo) hr
  rw [← e] at pl
  have hrow : ¬ boxY W s lo = boxY W s hi := by omega
  refine ⟨⟨op.1, oq.2, .inr e⟩, (p1 - boxX W s lo).toNat, ?_, ?_⟩
  ·unfold borderL
   rw [if_neg hrow, lowL_len]
   omega
  ·intro j r hj
   unfold borderL at hj
   rw [if_neg hrow] at hj
   have hjn : j < (boxW W s lo).toNat := by
    have := (List.getElem?_eq_some_iff.1 hj).1
    rwa [lowL_len] at this
   rw [lowL_at _ _ _ _ hjn] at hj
   have hr' := (Option.some.inj hj).symm
   subst hr'
   simp only [Prod.mk.injEq]
   omega

theorem Pair.mem {W H s lo hi : Int} (hr : rightB W H s = true) (h : Pair W H s lo hi) : hi ∈ besideL W H s lo ∧ lo ∈ besideL W H s hi := by
 obtain ⟨h1, h2, h3, h4, h5, h6⟩ := rightB_true.1 hr
 have b1 := acr_bd W s h5 h6 h1 h2
 have hlt := h.lt hr
 have h0 := h.lo0
 have h7 := h.hi1
 rw [beside_mem, beside_mem]
 rcases h.way with ⟨e, hw⟩ | e
 ·refine ⟨.inr (.inl ⟨hw, e⟩), .inr (.inr (.inr ⟨?_, by omega⟩))⟩
  have e' := Int.emod_add_mul_ediv lo (acr W s)
  have m0 : 0 ≤ lo % acr W s := Int.emod_nonneg _ (by omega)
  have : hi = (lo % acr W s + 1) + acr W s * (lo / acr W s) := by omega
  rw [this, Int.add_mul_emod_self_left, Int.emod_eq_of_lt (by omega) (by omega)]
  omega
 ·exact ⟨.inr (.inr (.inl ⟨by omega, e⟩)), .inl ⟨by omega, by omega⟩⟩

theorem beside_self {W H s id : Int} (hr : rightB W H s = true) : hasI (besideL W H s id) id = false := by
 obtain ⟨h1, h2, h3, h4, h5, h6⟩ := rightB_true.1 hr
 have b1 := acr_bd W s h5 h6 h1 h2
 cases h : hasI (besideL W H s id) id
 ·rfl
 ·rw [hasI_iff, beside_mem] at h
  omega

theorem borderL_len {W H s lo hi : Int} (hr : rightB W H s = true) (h0 : 0 ≤ lo) (h1 : lo < cnt W H s) : (borderL W H s lo hi).length ≤ 16 := by
 have z := box_sz hr h0 h1
 unfold borderL
 split
 ·rw [sideL_len]; omega
 ·rw [lowL_len]; omega

def cornX (b : Cell × Cell) (d : Int) : Int := if d = 1 then b.1.1 + b.2.1 - 1 else b.1.1
def cornY (b : Cell × Cell) (d : Int) : Int := if d = 2 then b.1.2 + b.2.2 - 1 else b.1.2
def nbOf (l : List (Cell × Cell)) (b : Cell × Cell) (d : Int) : Int := fOf l (stepX (cornX b d) d) (stepY (cornY b d) d)
def nbL (l : List (Cell × Cell)) (b : Cell × Cell) (n : Nat) : List Int := (List.range n).flatMap fun d : Nat => opt (decide (0 ≤ nbOf l b d)) (nbOf l b d)
theorem nbL_succ (l : List (Cell × Cell)) (b : Cell × Cell) (n : Nat) : nbL l b (n + 1) = nbL l b n ++ opt (decide (0 ≤ nbOf l b n)) (nbOf l b n) := by
 simp [nbL, List.range_succ]
theorem nbL_len (l : List (Cell × Cell)) (b : Cell × Cell) (n : Nat) : (nbL l b n).length ≤ n := by
 induction n with
 | zero => simp [nbL]
 | succ n ih => rw [nbL_succ, List.length_append]; have := opt_len (decide (0 ≤ nbOf l b n)) (nbOf l b n); omega

theorem gidx_bd {α : Type} (p : α → Bool) (l : List α) : -1 ≤ gidx p l ∧ gidx p l < (l.length : Int) + 1 := by
 unfold gidx
 cases h : l.findIdx? p with
 | none => simp; omega
 | some i =>
  have := (List.findIdx?_eq_some_iff_getElem.1 h).1
  simp; omega

/-- What the reference's Border lays for one cell: those of its right, and lower one that are in the box. -/
def bItem (b : Cell × Cell) (x y : Int) (d : Nat) : List (Cell × Cell) := if hasP (stepX x (d : Int)) (stepY y (d : Int)) b = true then [((x, y), (stepX x (d : Int), stepY y (d : Int)))] else []
def bDirs (b : Cell × Cell) (x y : Int) (m : Nat) : List (Cell × Cell) := (List.range m).flatMap fun d => bItem b x y (d + 1)
def bRow (b : Cell × Cell) (x0 y : Int) (n : Nat) : List (Cell × Cell) := (List.range n).flatMap fun i : Nat => bDirs b (x0 + (i : Int)) y 2
def bAll (b : Cell × Cell) (x0 y0 : Int) (wd n : Nat) : List (Cell × Cell) := (List.range n).flatMap fun j : Nat => bRow b x0 (y0 + (j : Int)) wd
theorem bItem_len (b : Cell × Cell) (x y : Int) (d : Nat) : (bItem b x y d).length ≤ 1 := by unfold bItem; split <;> simp
theorem bDirs_succ (b : Cell × Cell) (x y : Int) (m : Nat) : bDirs b x y (m + 1) = bDirs b x y m ++ bItem b x y (m + 1) := by simp [bDirs, List.range_succ]
theorem bRow_succ (b : Cell × Cell) (x0 y : Int) (n : Nat) : bRow b x0 y (n + 1) = bRow b x0 y n ++ bDirs b (x0 + (n : Int)) y 2 := by simp [bRow, List.range_succ]
theorem bAll_succ (b : Cell × Cell) (x0 y0 : Int) (wd n : Nat) : bAll b x0 y0 wd (n + 1) = bAll b x0 y0 wd n ++ bRow b x0 (y0 + (n : Int)) wd := by simp [bAll, List.range_succ]
theorem bDirs_len (b : Cell × Cell) (x y : Int) (m : Nat) : (bDirs b x y m).length ≤ m := by
 induction m with
 | zero => simp [bDirs]
 | succ n ih => rw [bDirs_succ, List.length_append]; have := bItem_len b x y (n + 1); omega
theorem bRow_len (b : Cell × Cell) (x0 y : Int) (n : Nat) : (bRow b x0 y n).length ≤ 2 * n := by
 induction n with
 | zero => simp [bRow]
 | succ n ih => rw [bRow_succ, List.length_append]; have := bDirs_len b (x0 + (n : Int)) y 2; omega
theorem bAll_len (b : Cell × Cell) (x0 y0 : Int) (wd n : Nat) : (bAll b x0 y0 wd n).length ≤ 2 * wd * n := by
 induction n with
 | zero => simp [bAll]
 | succ n ih => rw [bAll_succ, List.length_append, Nat.mul_succ]; have := bRow_len b x0 (y0 + (n : Int)) wd; omega
theorem opt_yes {α : Type} (L : List Int) {M : Int} (h : 0 ≤ M) (f : List Int → α) : f (L ++ opt (decide (0 ≤ M)) M) = f (L ++ [M]) := by simp [opt, h]
theorem opt_no {α : Type} (L : List Int) {M : Int} (h : M < 0) (f : List Int → α) : f (L ++ opt (decide (0 ≤ M)) M) = f L := by
 have h' : ¬ 0 ≤ M := by omega
 simp [opt, h']

theorem opt_if {c : Prop} [Decidable c] {n v : Int} (h1 : c → n = v ∧ 0 ≤ v) (h2 : ¬ c → n = -1) : opt (decide (0 ≤ n)) n = opt (decide c) v := by
 by_cases h : c
 ·obtain ⟨rfl, h3⟩ := h1 h
  simp [opt, h, h3]
 ·have := h2 h
  subst this
  simp [opt, h]

theorem fOf_box {W H s : Int} (hr : rightB W H s = true) {id : Int} (h0 : 0 ≤ id) (hid : id < cnt W H s) {x y : Int} (hx : boxX W s id ≤ x ∧ x < boxX W s id + boxW W s id) (hy : boxY W s id ≤ y ∧ y < boxY W s id + boxH W H s id) :
  fOf (boxesAll W H s) x y = id := by
 have A := in_box hr h0 hid hx hy
 rw [fOf_in hr A.1, A.2]

theorem acr_top {L s : Int} (hs : 1 ≤ s) : L ≤ acr L s * s := by
 unfold acr
 have h := Int.emod_add_mul_ediv (L + s - 1) s
 have h2 := Int.emod_lt_of_pos (L + s - 1) (show 0 < s by omega)
 rw [Int.mul_comm] at h
 omega

theorem row_lt {W H s id : Int} (hr : rightB W H s = true) (hid : id < cnt W H s) : id / acr W s < acr H s := by
 obtain ⟨h1, h2, h3, h4, h5, h6⟩ := rightB_true.1 hr
 have b1 := acr_bd W s h5 h6 h1 h2
 exact Int.ediv_lt_of_lt_mul (by omega) (by unfold cnt at hid; rw [Int.mul_comm] at hid; exact hid)

/-- How a cluster lies in its row and column. -/
theorem lies {W H s id : Int} (hr : rightB W H s = true) (h0 : 0 ≤ id) (hid : id < cnt W H s) :
  (acr W s ≤ id ↔ 0 < boxY W s id) ∧ (0 < id % acr W s ↔ 0 < boxX W s id) ∧
  (id % acr W s < acr W s - 1 → id + 1 < cnt W H s) ∧ (¬ id % acr W s < acr W s - 1 → W ≤ boxX W s id + s) ∧ (¬ id + acr W s < cnt W H s → H ≤ boxY W s id + s) := by
 obtain ⟨h1, h2, h3, h4, h5, h6⟩ := rightB_true.1 hr
 have b1 := acr_bd W s h5 h6 h1 h2
 have b2 := acr_bd H s h5 h6 h3 h4
 have e := Int.emod_add_mul_ediv id (acr W s)
 have m0 : 0 ≤ id % acr W s := Int.emod_nonneg _ (by omega)
 have m1 := Int.emod_lt_of_pos id (show 0 < acr W s by omega)
 have d0 : 0 ≤ id / acr W s := Int.ediv_nonneg h0 (by omega)
 have d1 := row_lt hr hid
 have t1 := acr_top (L := W) (s := s) (by omega)
 have t2 := acr_top (L := H) (s := s) (by omega)
 unfold boxX boxY cnt at *
 generalize id % acr W s = m at *
 generalize id / acr W s = d at *
 generalize acr W s = a at *
 generalize acr H s = c at *
 have ad := Int.mul_nonneg (show 0 ≤ a by omega) d0
 have ac : a * (d + 1) ≤ a * c := Int.mul_le_mul_of_nonneg_left (by omega) (by omega)
 rw [Int.mul_add, Int.mul_one] at ac
 refine ⟨⟨fun h => ?_, fun h => ?_⟩, ⟨fun h => ?_, fun h => ?_⟩, fun h => ?_, fun h => ?_, fun h => ?_⟩
 ·have : 0 < d := by
   apply Int.lt_of_not_ge
   intro hd
   have : d = 0 := by omega
   subst this
   simp at e
   omega
  exact Int.mul_pos this (by omega)
 ·have : 0 < d := by
   apply Int.lt_of_not_ge
   intro hd
   have : d = 0 := by omega
   subst this
   simp at h
  have : a * 1 ≤ a * d := Int.mul_le_mul_of_nonneg_left (by omega) (by omega)
  omega
 ·exact Int.mul_pos h (by omega)
 ·apply Int.lt_of_not_ge
  intro hd
  have : m = 0 := by omega
  subst this
  simp at h
 ·omega
 ·have : m = a - 1 := by omega
  subst this
  rw [Int.sub_mul]; omega
 ·have : d = c - 1 := by
   apply Int.le_antisymm (by omega)
   apply Int.le_of_not_gt
   intro hd
   have : a * (d + 2) ≤ a * c := Int.mul_le_mul_of_nonneg_left (by omega) (by omega)
   rw [Int.mul_add] at this
   omega
  subst this
  rw [Int.sub_mul]; omega

theorem off_x {W H x y : Int} (h : x < 0 ∨ W ≤ x) : inB W H x y = false := by
 cases hh : inB W H x y
 ·rfl
 ·have := inB_true.1 hh; omega
theorem off_y {W H x y : Int} (h : y < 0 ∨ H ≤ y) : inB W H x y = false := by
 cases hh : inB W H x y
 ·rfl
 ·have := inB_true.1 hh; omega

/-- The clusters that the reference finds beside one. -/
theorem nbL_all {W H s id : Int} (hr : rightB W H s = true) (h0 : 0 ≤ id) (hid : id < cnt W H s) : nbL (boxesAll W H s) (boxP W H s id) 4 = besideL W H s id := by
 obtain ⟨h1, h2, h3, h4, h5, h6⟩ := rightB_true.1 hr
 have b1 := acr_bd W s h5 h6 h1 h2
 have bb := box_bd hr h0 hid
 have zz := box_sz hr h0 hid
 have li := lies hr h0 hid
 have e4 : nbL (boxesAll W H s) (boxP W H s id) 4 = opt (decide (0 ≤ nbOf (boxesAll W H s) (boxP W H s id) 0)) (nbOf (boxesAll W H s) (boxP W H s id) 0) ++ opt (decide (0 ≤ nbOf (boxesAll W H s) (boxP W H s id) 1)) (nbOf (boxesAll W H s) (boxP W H s id) 1) ++ opt (decide (0 ≤ nbOf (boxesAll W H s) (boxP W H s id) 2)) (nbOf (boxesAll W H s) (boxP W H s id) 2) ++ opt (decide (0 ≤ nbOf (boxesAll W H s) (boxP W H s id) 3)) (nbOf (boxesAll W H s) (boxP W H s id) 3) := by
  rw [nbL_succ _ _ 3, nbL_succ _ _ 2, nbL_succ _ _ 1, nbL_succ _ _ 0]; rfl
 have n0 : nbOf (boxesAll W H s) (boxP W H s id) 0 = fOf (boxesAll W H s) (boxX W s id) (boxY W s id - 1) := rfl
 have n1 : nbOf (boxesAll W H s) (boxP W H s id) 1 = fOf (boxesAll W H s) (boxX W s id + boxW W s id - 1 + 1) (boxY W s id) := rfl
 have n2 : nbOf (boxesAll W H s) (boxP W H s id) 2 = fOf (boxesAll W H s) (boxX W s id) (boxY W s id + boxH W H s id - 1 + 1) := rfl
 have n3 : nbOf (boxesAll W H s) (boxP W H s id) 3 = fOf (boxesAll W H s) (boxX W s id - 1) (boxY W s id) := rfl
 rw [e4, n0, n1, n2, n3]
 clear e4 n0 n1 n2 n3
 unfold besideL
 congr 1
 ·congr 1
  ·congr 1
   ·refine opt_if (fun hc => ⟨?_, by omega⟩) (fun hc => fOf_out hr (off_y (by omega)))
    have pl := Pair.low (lo := id - acr W s) hr
    rw [show id - acr W s + acr W s = id by omega] at pl
    have q := box_sz hr (id := id - acr W s) (by omega) (by omega)
    refine fOf_box hr (by omega) (by omega) ⟨by omega, by omega⟩ ⟨by omega, ?_⟩
    unfold boxH; omega
   ·refine opt_if (fun hc => ⟨?_, by omega⟩) (fun hc => fOf_out hr (off_x (.inr ?_)))
    ·have pr := Pair.right hr h0 hc
     have q := box_sz hr (id := id + 1) (by omega) (li.2.2.1 hc)
     have q' := box_bd hr (id := id + 1) (by omega) (li.2.2.1 hc)
     have hw : boxW W s id = s := by unfold boxW; omega
     refine fOf_box hr (by omega) (li.2.2.1 hc) ⟨by omega, by omega⟩ ⟨by omega, by omega⟩
    ·have := li.2.2.2.1 hc
     unfold boxW; omega
  ·refine opt_if (fun hc => ⟨?_, by omega⟩) (fun hc => fOf_out hr (off_y (.inr ?_)))
   ·have pl := Pair.low (lo := id) hr
    have q := box_sz hr (id := id + acr W s) (by omega) hc
    have q' := box_bd hr (id := id + acr W s) (by omega) hc
    have hw : boxH W H s id = s := by unfold boxH; omega
    refine fOf_box hr (by omega) hc ⟨by omega, by omega⟩ ⟨by omega, by omega⟩
   ·have := li.2.2.2.2 hc
    unfold boxH; omega
 ·have hm : 0 < id % acr W s → (id - 1) % acr W s < acr W s - 1 ∧ 1 ≤ id := by
   intro hc
   have e := Int.emod_add_mul_ediv id (acr W s)
   have m1 := Int.emod_lt_of_pos id (show 0 < acr W s by omega)
   have d0 : 0 ≤ acr W s * (id / acr W s) := Int.mul_nonneg (by omega) (Int.ediv_nonneg h0 (by omega))
   have : id - 1 = (id % acr W s - 1) + acr W s * (id / acr W s) := by omega
   rw [this, Int.add_mul_emod_self_left, Int.emod_eq_of_lt (by omega) (by omega)]
   omega
  refine opt_if (fun hc => ⟨?_, by have := (hm hc).2; omega⟩) (fun hc => fOf_out hr (off_x (by omega)))
  have hm' := hm hc
  have pr := Pair.right (lo := id - 1) hr (by omega) hm'.1
  rw [show id - 1 + 1 = id by omega] at pr
  have q := box_sz hr (id := id - 1) (by omega) (by omega)
  refine fOf_box hr (by omega) (by omega) ⟨by omega, ?_⟩ ⟨by omega, ?_⟩
  ·unfold boxW; omega
  ·unfold boxH; unfold boxH at zz; rw [← pr.2]; omega

theorem flat_nil {α : Type} {f : Nat → List α} (n : Nat) (h : ∀ i, i < n → f i = []) : (List.range n).flatMap f = [] := by
 induction n with
 | zero => simp
 | succ n ih => rw [List.range_succ, List.flatMap_append, ih (fun i hi => h i (by omega))]; simp [h n (by omega)]
theorem flat_last {α : Type} {f : Nat → List α} (n : Nat) (h : ∀ i, i < n → f i = []) : (List.range (n + 1)).flatMap f = f n := by
 rw [List.range_succ, List.flatMap_append, flat_nil n h]; simp
theorem flat_map {α : Type} {f : Nat → List α} {g : Nat → α} (n : Nat) (h : ∀ i, i < n → f i = [g i]) : (List.range n).flatMap f = (List.range n).map g := by
 induction n with
 | zero => simp
 | succ n ih => rw [List.range_succ, List.flatMap_append, ih (fun i hi => h i (by omega))]; simp [h n (by omega)]

theorem bDirs_two (b : Cell × Cell) (x y : Int) : bDirs b x y 2 = (if hasP (x + 1) y b = true then [((x, y), (x + 1, y))] else []) ++ (if hasP x (y + 1) b = true then [((x, y), (x, y + 1))] else []) := by
 rw [bDirs_succ, bDirs_succ]; rfl

theorem hasP_of {W H s x y hi : Int} (h : hasP x y (boxP W H s hi) = true) : (boxX W s hi ≤ x ∧ x < boxX W s hi + boxW W s hi) ∧ (boxY W s hi ≤ y ∧ y < boxY W s hi + boxH W H s hi) := by
 unfold hasP boxP at h; have := hasB_true.1 h; simp only at this; omega
theorem hasP_mk {W H s x y hi : Int} (h : (boxX W s hi ≤ x ∧ x < boxX W s hi + boxW W s hi) ∧ (boxY W s hi ≤ y ∧ y < boxY W s hi + boxH W H s hi)) : hasP x y (boxP W H s hi) = true := by
 unfold hasP boxP; refine hasB_true.2 ?_; simp only; omega
theorem hasP_no {W H s x y hi : Int} (h : ¬ ((boxX W s hi ≤ x ∧ x < boxX W s hi + boxW W s hi) ∧ (boxY W s hi ≤ y ∧ y < boxY W s hi + boxH W H s hi))) : hasP x y (boxP W H s hi) = false := by
 cases hh : hasP x y (boxP W H s hi)
 ·rfl
 ·exact absurd (hasP_of hh) h

theorem near_pair {W H s lo hi : Int} (hr : rightB W H s = true) (h0 : 0 ≤ lo) (hlt : lo < hi) (hid : hi < cnt W H s) : hasI (besideL W H s lo) hi = true ↔ Pair W H s lo hi := by
 obtain ⟨h1, h2, h3, h4, h5, h6⟩ := rightB_true.1 hr
 have b1 := acr_bd W s h5 h6 h1 h2
 rw [hasI_iff, beside_mem]
 constructor
 ·rintro (h | h | h | h)
  ·omega
  ·exact ⟨h0, hid, .inl ⟨h.2, h.1⟩⟩
  ·exact ⟨h0, hid, .inr h.2⟩
  ·omega
 ·intro h
  rcases h.way with h' | h'
  ·exact .inr (.inl ⟨h'.2, h'.1⟩)
  ·exact .inr (.inr (.inl ⟨by omega, h'⟩))

/-- The pairs that the reference lays along the border of two clusters. -/
theorem bAll_border {W H s lo hi : Int} (hr : rightB W H s = true) (h0 : 0 ≤ lo) (hlt : lo < hi) (hid : hi < cnt W H s) :
  bAll (boxP W H s hi) (boxX W s lo) (boxY W s lo) (boxW W s lo).toNat (boxH W H s lo).toNat = if hasI (besideL W H s lo) hi = true then borderL W H s lo hi else [] := by
 obtain ⟨h1, h2, h3, h4, h5, h6⟩ := rightB_true.1 hr
 have b1 := acr_bd W s h5 h6 h1 h2
 have bl := box_bd hr h0 (by omega)
 have zl := box_sz hr h0 (show lo < cnt W H s by omega)
 have bh := box_bd hr (show 0 ≤ hi by omega) hid
 have zh := box_sz hr (show 0 ≤ hi by omega) hid
 by_cases hP : Pair W H s lo hi
 ·rw [if_pos ((near_pair hr h0 hlt hid).2 hP)]
  rcases hP.way with ⟨e, hw⟩ | e
  ·have pr := Pair.right hr h0 hw
   rw [← e] at pr
   have hW : boxW W s lo = s := by unfold boxW; omega
   have hHH : boxH W H s hi = boxH W H s lo := by unfold boxH; rw [pr.2]
   unfold borderL
   rw [if_pos pr.2.symm]
   unfold bAll sideL
   refine flat_map (f := fun j : Nat => bRow (boxP W H s hi) (boxX W s lo) (boxY W s lo + (j : Int)) (boxW W s lo).toNat) _ (fun j hj => ?_)
   obtain ⟨n, hn⟩ : ∃ n : Nat, (boxW W s lo).toNat = n + 1 := ⟨(boxW W s lo).toNat - 1, by omega⟩
   rw [hn]
   unfold bRow
   rw [flat_last (f := fun i : Nat => bDirs (boxP W H s hi) (boxX W s lo + (i : Int)) (boxY W s lo + (j : Int)) 2)]
   ·rw [bDirs_two, if_pos (hasP_mk ⟨⟨by omega, by omega⟩, by omega, by omega⟩), if_neg (by rw [hasP_no (by omega)]; simp), List.append_nil]
    simp only [List.cons.injEq, Prod.mk.injEq, and_true, true_and]
    omega
   ·intro i hi'
    rw [bDirs_two, if_neg (by rw [hasP_no (by omega)]; simp), if_neg (by rw [hasP_no (by omega)]; simp), List.append_nil]
  ·have pl := Pair.low (lo := lo) hr
   rw [← e] at pl
   have hH : boxH W H s lo = s := by unfold boxH; omega
   have hWW : boxW W s hi = boxW W s lo := by unfold boxW; rw [pl.1]
   unfold borderL
   rw [if_neg (by omega)]
   unfold bAll lowL
   obtain ⟨n, hn⟩ : ∃ n : Nat, (boxH W H s lo).toNat = n + 1 := ⟨(boxH W H s lo).toNat - 1, by omega⟩
   rw [hn]
   rw [flat_last (f := fun j : Nat => bRow (boxP W H s hi) (boxX W s lo) (boxY W s lo + (j : Int)) (boxW W s lo).toNat)]
   ·unfold bRow
    refine flat_map (f := fun i : Nat => bDirs (boxP W H s hi) (boxX W s lo + (i : Int)) (boxY W s lo + (n : Int)) 2) _ (fun i hi' => ?_)
    rw [bDirs_two, if_neg (by rw [hasP_no (by omega)]; simp), if_pos (hasP_mk ⟨⟨by omega, by omega⟩, by omega, by omega⟩), List.nil_append]
    simp only [List.cons.injEq, Prod.mk.injEq, and_true, true_and]
    omega
   ·intro j hj
    unfold bRow
    refine flat_nil _ (fun i hi' => ?_)
    rw [bDirs_two, if_neg (by rw [hasP_no (by omega)]; simp), if_neg (by rw [hasP_no (by omega)]; simp), List.append_nil]
 ·rw [if_neg (fun h => hP ((near_pair hr h0 hlt hid).1 h))]
  refine flat_nil _ (fun j hj => flat_nil _ (fun i hi' => ?_))
  have hc := in_box hr h0 (by omega) (x := boxX W s lo + (i : Int)) (y := boxY W s lo + (j : Int)) ⟨by omega, by omega⟩ ⟨by omega, by omega⟩
  have no : ∀ q : Cell, Left (boxX W s lo + (i : Int), boxY W s lo + (j : Int)) q ∨ Above (boxX W s lo + (i : Int), boxY W s lo + (j : Int)) q → hasP q.1 q.2 (boxP W H s hi) = false := by
   intro q hq
   cases hh : hasP q.1 q.2 (boxP W H s hi)
   ·rfl
   ·have hb := hasP_of hh
    have hq' := in_box hr (show 0 ≤ hi by omega) hid hb.1 hb.2
    have := (border_has (p := (boxX W s lo + (i : Int), boxY W s lo + (j : Int))) hr hc.1 hq'.1 hq (by rw [hc.2, hq'.2]; omega)).1
    rw [hc.2, hq'.2] at this
    exact absurd this hP
  rw [bDirs_two, if_neg (by rw [no (boxX W s lo + (i : Int) + 1, boxY W s lo + (j : Int)) (.inl ⟨rfl, rfl⟩)]; simp), if_neg (by rw [no (boxX W s lo + (i : Int), boxY W s lo + (j : Int) + 1) (.inr ⟨rfl, rfl⟩)]; simp), List.append_nil]

theorem bDirs_next (b : Cell × Cell) (x y : Int) (m : Nat) : bDirs b x y (m + 1) = bDirs b x y m ++ if hasP (stepX x ((m : Int) + 1)) (stepY y ((m : Int) + 1)) b = true then [((x, y), (stepX x ((m : Int) + 1), stepY y ((m : Int) + 1)))] else [] := by
 rw [bDirs_succ]; simp [bItem]
theorem step_near (x y d : Int) : x - 1 ≤ stepX x d ∧ stepX x d ≤ x + 1 ∧ y - 1 ≤ stepY y d ∧ stepY y d ≤ y + 1 := by
 unfold stepX stepY
 (repeat' split) <;> omega

theorem Below.drewN' {q : Nat} {a b : World} (h : Below q a b) (n : Nat) : Below q a (b.drewN n) := ⟨h.os, h.tape, h.output, h.size, fun k hk => h.block k hk⟩
theorem Own.drewN {α : Type} {E : Enc α} {w : World} {base : Nat} {e : TypeId} {v : Value} {l : List α} (h : Own E w base e v l) (n : Nat) : Own E (w.drewN n) base e v l := h

def RetPairs1 (w : World) (L : List (Cell × Cell)) (e : Ending) (w' : World) : Prop := ∃ v, e = .returned v ∧ Ext w w' ∧ Own pairE w' w.heap.size 264 v L

theorem rBorder_same (v : Value) (a : Int) (w : World) : Calls Tryz.prog 118 #[v, .int .i64 a, .int .i64 a] w (RetPairs1 w []) := by
 go_enter Tryz.func118, Tryz.ntmps118
 go_wp2
 go_ret
 exact ⟨_, rfl, (by (with_reducible (repeat' (first | exact z_r _ | assumption | refine z_d ?_ | refine z_n ?_ _ | refine z_a ?_ _ | refine z_s ?_ ?_ _ | refine z_t ?_ (by assumption)))); all_goals (simp <;> omega)), Own.lit0 _ _ _ _ _ rfl (Nat.le_refl _)⟩

set_option maxRecDepth 100000 in
set_option maxHeartbeats 4000000 in
theorem rBorder_two (g c : Nat) (l : List (Cell × Cell)) (a b : Nat) (Ax Ay Bx By Bw Bh : Int) (aw ah : Nat) (w : World) (hl : l.length ≤ 1000000) (hr : Reads pairE w (.slice (some ⟨g, 0, none⟩) l.length c) l)
  (hne : a ≠ b) (hA : l[min a b]? = some ((Ax, Ay), ((aw : Int), (ah : Int)))) (hB : l[max a b]? = some ((Bx, By), (Bw, Bh)))
  (hb : 0 ≤ Ax ∧ Ax ≤ 1000 ∧ 0 ≤ Ay ∧ Ay ≤ 1000 ∧ aw ≤ 16 ∧ ah ≤ 16 ∧ 0 ≤ Bx ∧ 0 ≤ By) :
  Calls Tryz.prog 118 #[.slice (some ⟨g, 0, none⟩) l.length c, .int .i64 (a : Int), .int .i64 (b : Int)] w (RetPairs1 w (bAll ((Bx, By), (Bw, Bh)) Ax Ay aw ah)) := by
 have ha1 := (List.getElem?_eq_some_iff.1 hA).1
 have hb1 := (List.getElem?_eq_some_iff.1 hB).1
 obtain ⟨c1, c2, c3, c4⟩ := hr.pair_at hA
 obtain ⟨e1, e2, e3, e4⟩ := hr.pair_at hB
 have zg := hr.pairs.1
 have HNE := hide hne
 obtain ⟨lo, hlo⟩ : ∃ lo : Nat, lo = min a b := ⟨_, rfl⟩
 obtain ⟨hi, hhi⟩ : ∃ hi : Nat, hi = max a b := ⟨_, rfl⟩
 rw [← hlo] at ha1 c1 c2 c3 c4
 rw [← hhi] at hb1 e1 e2 e3 e4
 simp only at c1 c2 c3 c4 e1 e2 e3 e4
 have HLO := hide hlo
 have HHI := hide hhi
 have hneB : ((a : Int) == (b : Int)) = false := by simp; omega
 have hab : a < 1000000 := by omega
 have hbb : b < 1000000 := by omega
 clear hne hA hB hr hlo hhi
 obtain ⟨w0, hw0⟩ : ∃ w0, w0 = w.alloc (.cells #[] 264) := ⟨_, rfl⟩
 have hx0 : Ext w w0 := by rw [hw0]; exact (by (with_reducible (repeat' (first | exact z_r _ | assumption | refine z_d ?_ | refine z_n ?_ _ | refine z_a ?_ _ | refine z_s ?_ ?_ _ | refine z_t ?_ (by assumption)))); all_goals (simp <;> omega))
 have O0 := hide (show Own pairE w0 w.heap.size 264 (.slice (some ⟨w.heap.size, 0, none⟩) 0 0) [] by rw [hw0]; exact Own.lit0 _ _ _ _ _ rfl (Nat.le_refl _))
 have HW0 := hide hw0
 clear hw0
 go_enter Tryz.func118, Tryz.ntmps118
 go_upto_if 20 with (fail)
 rw [← HW0.out]
 go_cut [1, 2] (fun s1 s2 wx => s1 = .int .i64 (lo : Int) ∧ s2 = .int .i64 (hi : Int) ∧ w0 = wx)
 case first =>
  rcases Nat.lt_or_gt_of_ne HNE.out with hlt | hlt
  all_goals
   go_wp2
   go_meet
   exact ⟨by have := HLO.out; congr 1; omega, by have := HHI.out; congr 1; omega, rfl⟩
 case rest =>
  obtain ⟨rfl, rfl, rfl⟩ := hcut
  have hz0 := hx0.size
  have HE := hide (show _ ∧ _ ∧ _ ∧ _ from ⟨e1, e2, e3, e4⟩)
  have HC := hide (show _ ∧ _ ∧ _ ∧ _ from ⟨c1, c2, c3, c4⟩)
  have d2 := (hx0.cell (p := ⟨g, lo * 4 + 1, none⟩) zg).trans c2
  clear c1 c2 c3 c4 e1 e2 e3 e4
  have g0 : (0 : Int) ≤ (lo : Int) := by omega
  have g1 : (lo : Int) < (l.length : Int) := by omega
  have g2 : (0 : Int) ≤ (hi : Int) := by omega
  have g3 : (hi : Int) < (l.length : Int) := by omega
  have hbase : w.heap.size < w0.heap.size ∨ w.heap.size ≤ w0.heap.size := .inr hz0
  go_wp2
  go_loopw [7, 8] (fun out y wr => ∃ j : Nat, j ≤ ah ∧ y = .int .i64 (Ay + (j : Int)) ∧ Own pairE wr w.heap.size 264 out (bAll ((Bx, By), (Bw, Bh)) Ax Ay aw j) ∧ Below w.heap.size w0 wr) (fun _ y _ => ah - (intOf y - Ay).toNat)
  case atStart => exact ⟨0, Nat.zero_le _, by simp, O0.out, Below.refl _ _⟩
  case round =>
   obtain ⟨j, hj, rfl, hown, hbel⟩ := hrel
   have HO := hide hown
   clear hown d2
   have hz := hbel.size
   have hxr : Ext w wr := hx0.of_below hbel (Nat.le_refl _)
   obtain ⟨c1, c2, c3, c4⟩ := HC.out
   have d1 := (hxr.cell (p := ⟨g, lo * 4, none⟩) zg).trans c1
   have d2 := (hxr.cell (p := ⟨g, lo * 4 + 1, none⟩) zg).trans c2
   have d3 := (hxr.cell (p := ⟨g, lo * 4 + 2, none⟩) zg).trans c3
   have d4 := (hxr.cell (p := ⟨g, lo * 4 + 3, none⟩) zg).trans c4
   clear c1 c2 c3 c4
   have zr : g < wr.heap.size := by omega
   by_cases hlt : j < ah
   ·have k1 : Ay + (j : Int) < Ay + (ah : Int) := by omega
    go_wp2
    go_quiet (fail)
    go_wp2
    obtain ⟨wo, hwo⟩ : ∃ wo, wo = wr.drewN nq := ⟨_, rfl⟩
    rw [← hwo]
    have bo : Below w.heap.size w0 wo := by rw [hwo]; exact Below.drewN' hbel _
    have OO := hide (show Own pairE wo w.heap.size 264 _ _ by rw [hwo]; exact HO.out.drewN _)
    have lj := bAll_len ((Bx, By), (Bw, Bh)) Ax Ay aw j
    have lj' : 2 * aw * j ≤ 2 * 16 * 16 := Nat.mul_le_mul (by omega) (by omega)
    have hzo := bo.size
    have HJ := hide (bAll_succ ((Bx, By), (Bw, Bh)) Ax Ay aw j)
    obtain ⟨y, hy⟩ : ∃ y : Int, y = Ay + (j : Int) := ⟨_, rfl⟩
    rw [← hy] at k1 ⊢
    have yb : 0 ≤ y ∧ y ≤ 2000 := by omega
    have HY := hide hy
    clear hy d1 d2 d3 d4 hwo hz hxr zr HO
    generalize hL : bAll ((Bx, By), (Bw, Bh)) Ax Ay aw j = L at *
    clear hL
    go_loopw [7, 9] (fun out x wr => ∃ i : Nat, i ≤ aw ∧ x = .int .i64 (Ax + (i : Int)) ∧ Own pairE wr w.heap.size 264 out (L ++ bRow ((Bx, By), (Bw, Bh)) Ax y i) ∧ Below w.heap.size wo wr) (fun _ x _ => aw - (intOf x - Ax).toNat)
    case atStart => exact ⟨0, Nat.zero_le _, by simp, by simpa [bRow] using OO.out, Below.refl _ _⟩
    case round =>
     obtain ⟨i, hi', rfl, hown, hbel⟩ := hrel
     have HO := hide hown
     clear hown
     have hz := hbel.size
     have hxr : Ext w wr := hx0.of_below (bo.trans hbel) (Nat.le_refl _)
     obtain ⟨c1, c2, c3, c4⟩ := HC.out
     have d1 := (hxr.cell (p := ⟨g, lo * 4, none⟩) zg).trans c1
     have d3 := (hxr.cell (p := ⟨g, lo * 4 + 2, none⟩) zg).trans c3
     clear c1 c2 c3 c4
     by_cases hlt : i < aw
     ·have k2 : Ax + (i : Int) < Ax + (aw : Int) := by omega
      go_wp2
      go_quiet (fail)
      go_wp2
      obtain ⟨wp, hwp⟩ : ∃ wp, wp = wr.drewN nq := ⟨_, rfl⟩
      rw [← hwp]
      have bp : Below w.heap.size wo wp := by rw [hwp]; exact Below.drewN' hbel _
      have OP := hide (show Own pairE wp w.heap.size 264 _ _ by rw [hwp]; exact HO.out.drewN _)
      have li := bRow_len ((Bx, By), (Bw, Bh)) Ax y i
      have hzp := bp.size
      have HI := hide (bRow_succ ((Bx, By), (Bw, Bh)) Ax y i)
      obtain ⟨x, hx⟩ : ∃ x : Int, x = Ax + (i : Int) := ⟨_, rfl⟩
      rw [← hx] at k2 ⊢
      have xb : 0 ≤ x ∧ x ≤ 2000 := by omega
      have HX := hide hx
      clear hx d1 d3 hwp hz hxr HO
      obtain ⟨M, hM⟩ : ∃ M, M = L ++ bRow ((Bx, By), (Bw, Bh)) Ax y i := ⟨_, rfl⟩
      have lM : M.length ≤ 1000 := by rw [hM, List.length_append]; omega
      rw [← hM] at OP
      have HM := hide hM
      clear hM
      go_loopw [7, 10] (fun out d wr => ∃ m : Nat, m ≤ 2 ∧ d = .int .i64 ((m : Int) + 1) ∧ Own pairE wr w.heap.size 264 out (M ++ bDirs ((Bx, By), (Bw, Bh)) x y m) ∧ Below w.heap.size wp wr) (fun _ d _ => 3 - (intOf d).toNat)
      case atStart => exact ⟨0, Nat.zero_le _, by simp, by simpa [bDirs] using OP.out, Below.refl _ _⟩
      case round =>
       obtain ⟨m, hm, rfl, hown, hbel'⟩ := hrel
       have HO := hide hown
       clear hown
       have hz := hbel'.size
       have hxr : Ext w wr := hx0.of_below ((bo.trans bp).trans hbel') (Nat.le_refl _)
       have lm := bDirs_len ((Bx, By), (Bw, Bh)) x y m
       by_cases hlt' : m < 2
       ·have sn := step_near x y ((m : Int) + 1)
        have hstep := fun w => rStep_any x y ((m : Int) + 1) w (by omega) (by omega)
        have HD := bDirs_next ((Bx, By), (Bw, Bh)) x y m
        generalize hnx : stepX x ((m : Int) + 1) = nx at *
        generalize hny : stepY y ((m : Int) + 1) = ny at *
        clear hnx hny
        have HST := hide hstep
        clear hstep
        obtain ⟨e1, e2, e3, e4⟩ := HE.out
        have f1 := (hxr.cell (p := ⟨g, hi * 4, none⟩) zg).trans e1
        have f2 := (hxr.cell (p := ⟨g, hi * 4 + 1, none⟩) zg).trans e2
        have f3 := (hxr.cell (p := ⟨g, hi * 4 + 2, none⟩) zg).trans e3
        have f4 := (hxr.cell (p := ⟨g, hi * 4 + 3, none⟩) zg).trans e4
        clear e1 e2 e3 e4
        have zr : g < wr.heap.size := by omega
        go_wp2_with (go_at_call 52; refine (HST.out _).mono ?_; rintro e w1 ⟨rfl, hb1⟩; obtain ⟨hc1, hf1⟩ := hb1.cells; have hz1 := hb1.size; (repeat (first | rw [World.size_alloc] at hz1 | rw [World.size_drew] at hz1)); have z1_0 : g < w1.heap.size := (by omega); have z1_1 : wr.heap.size < w1.heap.size := (by omega))
        obtain ⟨w2, hw2⟩ : ∃ w2, w2 = w1.alloc (.cells #[.int .i64 nx, .int .i64 ny] 69) := ⟨_, rfl⟩
        have hx2 : Ext w1 w2 := by rw [hw2]; exact (by (with_reducible (repeat' (first | exact z_r _ | assumption | refine z_d ?_ | refine z_n ?_ _ | refine z_a ?_ _ | refine z_s ?_ ?_ _ | refine z_t ?_ (by assumption)))); all_goals (simp <;> omega))
        have hx1 : Ext wr w1 := (by (with_reducible (repeat' (first | exact z_r _ | assumption | refine z_d ?_ | refine z_n ?_ _ | refine z_a ?_ _ | refine z_s ?_ ?_ _ | refine z_t ?_ (by assumption)))); all_goals (simp <;> omega))
        have hx12 : Ext wr w2 := hx1.trans hx2
        have z1 : wr.heap.size < w1.heap.size := by have := hb1.size; simp at this; omega
        have z2 : w1.heap.size < w2.heap.size := by rw [hw2]; simp
        have p0 : w2.cell? ⟨w1.heap.size, 0, none⟩ = some (.int .i64 nx) := by rw [hw2]; simp [go_sem]
        have p1 : w2.cell? ⟨w1.heap.size, 1, none⟩ = some (.int .i64 ny) := by rw [hw2]; simp [go_sem]
        have q0 : w2.cell? ⟨wr.heap.size, 0, none⟩ = some (.int .i64 x) := by rw [hx2.cell (p := ⟨wr.heap.size, 0, none⟩) z1, hb1.cell (p := ⟨wr.heap.size, 0, none⟩) (by simp)]; simp [go_sem]
        have q1 : w2.cell? ⟨wr.heap.size, 1, none⟩ = some (.int .i64 y) := by rw [hx2.cell (p := ⟨wr.heap.size, 1, none⟩) z1, hb1.cell (p := ⟨wr.heap.size, 1, none⟩) (by simp)]; simp [go_sem]
        have g1' := (hx12.cell (p := ⟨g, hi * 4, none⟩) zr).trans f1
        have g2' := (hx12.cell (p := ⟨g, hi * 4 + 1, none⟩) zr).trans f2
        have g3' := (hx12.cell (p := ⟨g, hi * 4 + 2, none⟩) zr).trans f3
        have g4' := (hx12.cell (p := ⟨g, hi * 4 + 3, none⟩) zr).trans f4
        rw [← hw2]
        have HX12 := hide hx12
        have zr2 : g < w2.heap.size := by omega
        have zr3 : wr.heap.size < w2.heap.size := by omega
        clear hw2 hb1 hc1 hf1 hz1 f1 f2 f3 f4 hx1 hx2 hx12
        have HDD := hide HD
        clear HD
        cases hh : hasB Bx By Bw Bh nx ny
        all_goals
         go_region_held3 (fun W => (∀ b o, b < w2.heap.size → W.cell? ⟨b, o, none⟩ = w2.cell? ⟨b, o, none⟩) ∧ Ext w2 W) (first | with_reducible exact pr_start _ | exact pr_of (by (with_reducible (repeat' (first | exact z_r _ | assumption | refine z_d ?_ | refine z_n ?_ _ | refine z_a ?_ _ | refine z_s ?_ ?_ _ | refine z_t ?_ (by assumption)))); all_goals (simp <;> omega)))
          (first | (go_at_call 73; refine (rHas_any Bx By Bw Bh nx ny _ (by omega) (by omega) (by unfold InI; omega) (by unfold InI; omega)).mono ?_; rintro e w3 ⟨rfl, hb3⟩))
        ·rename_i hS
         have hx3 : Ext w2 w3 := hS.2
         have O3 := hide ((HO.out.ext HX12.out).ext hx3)
         have B3 := hide ((hbel'.trans (Below.mono HX12.out (by omega))).trans (Below.mono hx3 (by omega)) : Below w.heap.size wp w3)
         clear hS
         have HD := HDD.out
         rw [if_neg (by unfold hasP; simp only; rw [hh]; simp), List.append_nil] at HD
         have HD := hide HD
         clear HDD
         go_wp2
         go_roundw
         case rel => exact ⟨m + 1, by omega, by go_num, by rw [HD.out]; exact O3.out, B3.out⟩
         case measure => simp [intOf]; omega
        ·rename_i hS
         have hx3 : Ext w2 w3 := hS.2
         have r0 := (hx3.cell (p := ⟨w1.heap.size, 0, none⟩) z2).trans p0
         have r1 := (hx3.cell (p := ⟨w1.heap.size, 1, none⟩) z2).trans p1
         have r2 := (hx3.cell (p := ⟨wr.heap.size, 0, none⟩) zr3).trans q0
         have r3 := (hx3.cell (p := ⟨wr.heap.size, 1, none⟩) zr3).trans q1
         have hz3 := hx3.size
         have O3 := hide ((HO.out.ext HX12.out).ext hx3)
         have B3 := hide ((hbel'.trans (Below.mono HX12.out (by omega))).trans (Below.mono hx3 (by omega)) : Below w.heap.size wp w3)
         have lT : (M ++ bDirs ((Bx, By), (Bw, Bh)) x y m).length ≤ 1002 := by rw [List.length_append]; omega
         have HT := hide (rfl : M ++ bDirs ((Bx, By), (Bw, Bh)) x y m = M ++ bDirs ((Bx, By), (Bw, Bh)) x y m)
         clear hS hb3 p0 p1 q0 q1 g1' g2' g3' g4' HO
         have HD := HDD.out
         clear HDD
         rw [if_pos (show hasP nx ny ((Bx, By), (Bw, Bh)) = true from hh)] at HD
         have HD := hide HD
         clear HT
         obtain ⟨T, hT⟩ : ∃ T, T = M ++ bDirs ((Bx, By), (Bw, Bh)) x y m := ⟨_, rfl⟩
         rw [← hT] at O3 lT
         have HT := hide hT
         clear hT
         go_wp2_with (at_builtin; refine wpList_app pairE T_pairs rfl _ _ rfl w.heap.size _ _ T rfl O3.out ((x, y), (nx, ny)) _ _ rfl _ rfl rfl (by omega) (by omega) (by omega) ?_; intro g9 c9 w9 hown9 hb9; have HO9 := hide hown9; clear hown9)
         go_roundw
         case rel => exact ⟨m + 1, by omega, by go_num, by rw [HD.out, ← List.append_assoc, ← HT.out]; exact HO9.out, B3.out.trans hb9⟩
         case measure => simp [intOf]; omega
       ·obtain rfl : m = 2 := by omega
        go_wp2
        go_roundw
        case rel => exact ⟨i + 1, by omega, by have := HX.out; congr 1; omega, by rw [HI.out, ← List.append_assoc, ← HM.out, ← HX.out]; exact HO.out, bp.trans hbel'⟩
        case measure => have := HX.out; simp [intOf]; omega
     ·obtain rfl : i = aw := by omega
      go_wp2
      go_quiet (fail)
      go_wp2
      go_roundw
      case rel => exact ⟨j + 1, by omega, by have := HY.out; congr 1; omega, by rw [HJ.out, ← HY.out]; exact HO.out.drewN _, Below.drewN' (bo.trans hbel) _⟩
      case measure => have := HY.out; simp [intOf]; omega
   ·obtain rfl : j = ah := by omega
    go_wp2
    go_quiet (fail)
    go_wp2
    go_ret
    exact ⟨_, rfl, hxr.drewN _, HO.out⟩

set_option maxRecDepth 100000 in
set_option maxHeartbeats 20000000 in
theorem Border_yes (W H s a b : Int) (w : World) (hr : rightB W H s = true) (h0 : 0 ≤ a) (ha : a < cnt W H s) (h1 : 0 ≤ b) (hb : b < cnt W H s) (hn : hasI (besideL W H s (min a b)) (max a b) = true) :
  Calls Tryz.prog 162 #[.agg #[.int .i64 W, .int .i64 H, .int .i64 s], .int .i64 a, .int .i64 b] w (RetPairs w (borderL W H s (min a b) (max a b)) 0) := by
 have hany : [a, b].any (bad W H s) = false := by simp [bad_false h0 ha, bad_false h1 hb]
 go_enter Tryz.func162, Tryz.ntmps162
 go_upto_region 4 with (first
  | (go_at_call 101; refine (has_ok W H s _ 0 _ [a, b] _ hr hany (by simp) (by simp) (by exact two_at _ _ _ _ _ (by simp))).mono ?_; rintro e w1 ⟨rfl, hb1⟩; obtain ⟨hc1, hf1⟩ := hb1.cells; have hz1 := hb1.size; (repeat (first | rw [World.size_alloc] at hz1 | rw [World.size_drew] at hz1)); have z1_0 : w.heap.size < w1.heap.size := (by omega)))
 have hx1 : Ext w w1 := (by (with_reducible (repeat' (first | exact z_r _ | assumption | refine z_d ?_ | refine z_n ?_ _ | refine z_a ?_ _ | refine z_s ?_ ?_ _ | refine z_t ?_ (by assumption)))); all_goals (simp <;> omega))
 go_cut [1, 2] (fun s1 s2 wx => s1 = .int .i64 (min a b) ∧ s2 = .int .i64 (max a b) ∧ w1 = wx)
 case first =>
  go_wp2
  all_goals go_meet
  all_goals exact ⟨by congr 1; omega, by congr 1; omega, rfl⟩
 case rest =>
  obtain ⟨rfl, rfl, rfl⟩ := hcut
  have l0 : 0 ≤ min a b := by omega
  have l1 : min a b < cnt W H s := by omega
  have l2 : 0 ≤ max a b := by omega
  have l3 : max a b < cnt W H s := by omega
  generalize min a b = lo at *
  generalize max a b = hi at *
  have hlen := besideL_len W H s lo
  go_upto_region 9 with (first
   | (go_at_call 82; refine (Beside_yes W H s lo _ hr l0 l1).mono ?_; rintro e w2 ⟨v, rfl, hb2, hv⟩; have HV := hide hv; clear hv; obtain ⟨hc2, hf2⟩ := hb2.cells; have hz2 := hb2.size; (repeat (first | rw [World.size_alloc] at hz2 | rw [World.size_drew] at hz2)); have z2_0 : w.heap.size < w2.heap.size := (by omega))
   | (go_at_call 201; refine (contains_any hi _ (besideL W H s lo) _ (by omega) HV.out.reads).mono ?_; rintro e w3 ⟨rfl, hb3⟩; obtain ⟨hc3, hf3⟩ := hb3.cells; have hz3 := hb3.size; (repeat (first | rw [World.size_alloc] at hz3 | rw [World.size_drew] at hz3)); have z3_0 : w.heap.size < w3.heap.size := (by omega)))
  have hx13 : Ext w1 w3 := (by (with_reducible (repeat' (first | exact z_r _ | assumption | refine z_d ?_ | refine z_n ?_ _ | refine z_a ?_ _ | refine z_s ?_ ?_ _ | refine z_t ?_ (by assumption)))); all_goals (simp <;> omega))
  have hx3 : Ext w w3 := hx1.trans hx13
  have e0 : w3.cell? ⟨w.heap.size, 0, none⟩ = some (.int .i64 W) := by rw [hx13.cell (p := ⟨w.heap.size, 0, none⟩) z1_0, hc1 _ _ (by simp; omega)]; simp [go_sem]
  have e1 : w3.cell? ⟨w.heap.size, 1, none⟩ = some (.int .i64 H) := by rw [hx13.cell (p := ⟨w.heap.size, 1, none⟩) z1_0, hc1 _ _ (by simp; omega)]; simp [go_sem]
  have e2 : w3.cell? ⟨w.heap.size, 2, none⟩ = some (.int .i64 s) := by rw [hx13.cell (p := ⟨w.heap.size, 2, none⟩) z1_0, hc1 _ _ (by simp; omega)]; simp [go_sem]
  clear hx13 hn hany hb1 hc1 hf1 hx1 hb2 hc2 hf2 hb3 hc3 hf3 HV hlen z1_0 z2_0 hz1 hz2 hz3
  go_cut [12, 13] (fun s12 s13 wx => ∃ p q : Nat, s12 = .pointer (some ⟨p, 0, none⟩) ∧ s13 = .pointer (some ⟨q, 0, none⟩) ∧ p < wx.heap.size ∧ q < wx.heap.size ∧ Ext w wx ∧
   (wx.cell? ⟨p, 0, none⟩ = some (.int .i64 (boxX W s lo)) ∧ wx.cell? ⟨p, 1, none⟩ = some (.int .i64 (boxY W s lo)) ∧ wx.cell? ⟨p, 2, none⟩ = some (.int .i64 (boxW W s lo)) ∧ wx.cell? ⟨p, 3, none⟩ = some (.int .i64 (boxH W H s lo))) ∧
   wx.cell? ⟨q, 0, none⟩ = some (.int .i64 (boxX W s hi)) ∧ wx.cell? ⟨q, 1, none⟩ = some (.int .i64 (boxY W s hi)))
  case first =>
   go_region_held3 (fun W => (∀ b o, b < w3.heap.size → W.cell? ⟨b, o, none⟩ = w3.cell? ⟨b, o, none⟩) ∧ Ext w3 W) (first | with_reducible exact pr_start _ | exact pr_of (by (with_reducible (repeat' (first | exact z_r _ | assumption | refine z_d ?_ | refine z_n ?_ _ | refine z_a ?_ _ | refine z_s ?_ ?_ _ | refine z_t ?_ (by assumption)))); all_goals (simp <;> omega)))
    (first | (go_at_call 102; refine (box_yes W H s _ _ hr (by omega) (by omega)).mono ?_; rintro e w4 ⟨rfl, hb4⟩; obtain ⟨hc4, hf4⟩ := hb4.cells; have hz4 := hb4.size; (repeat (first | rw [World.size_alloc] at hz4 | rw [World.size_drew] at hz4)); (try have zA4 := Nat.lt_of_succ_le hz4); (try have zB4 := Nat.lt_of_succ_le (Nat.le_of_succ_le hz4)); (try have zC4 : w3.heap.size < w4.heap.size := (by omega)); (try have zD4 : w3.heap.size + 1 < w4.heap.size := (by omega)); (try have zE4 : w4.heap.size ≠ w3.heap.size := (by omega)); (try have zF4 : w3.heap.size ≠ w4.heap.size := (by omega)); (try have zG4 : w3.heap.size < w4.heap.size + 1 := (by omega))))
   all_goals
    rename_i hS
    have hX := hx3.trans hS.2
    clear hS
    have ar : ∀ n : Nat, n < n + 1 + 1 := (fun n => by omega)
    go_wp2_with fail
    go_meet
    refine ⟨_, _, rfl, rfl, ?_, ?_, hX, ⟨?_, ?_, ?_, ?_⟩, ?_, ?_⟩
    all_goals first
     | (simp [go_sem, boxW, boxH]; done)
     | (simp [go_sem, boxW, boxH]; omega)
     | (simp [go_sem, boxW, boxH, *]; done)
     | (simp [go_sem, boxW, boxH, hc4, zA4, zB4]; done)
     | skip
    all_goals ((try unfold boxW); (try unfold boxH); go_simp)
  case rest =>
   clear e0 e1 e2 z3_0 hx3
   obtain ⟨p, q, rfl, rfl, hp, hq, hx, ⟨p0, p1, p2, p3⟩, q0, q1⟩ := hcut
   have hzx := hx.size
   have bl := box_bd hr l0 l1
   have bh := box_bd hr l2 l3
   have sl := box_sz hr l0 l1
   obtain ⟨h1, h2, h3, h4, h5, h6⟩ := rightB_true.1 hr
   cases hrow : (boxY W s lo == boxY W s hi)
   ·have hrow' : ¬ boxY W s lo = boxY W s hi := by simpa using hrow
    have hbl : borderL W H s lo hi = lowL (boxX W s lo) (boxY W s hi) (boxW W s lo).toNat := by unfold borderL; rw [if_neg hrow']
    clear hrow'
    obtain ⟨N, hN⟩ : ∃ N : Nat, boxW W s lo = (N : Int) := ⟨(boxW W s lo).toNat, by omega⟩
    rw [hN] at sl p2 hbl
    rw [Int.toNat_natCast] at hbl
    clear hN
    have HB := hide hbl
    clear hbl
    generalize boxX W s lo = X1 at *
    generalize boxY W s hi = Y2 at *
    go_wp2
    go_loopw [11, 79] (fun out i wr => ∃ k : Nat, k ≤ N ∧ i = .int .i64 k ∧ Own pairE wr wc.heap.size 264 out (lowL X1 Y2 k) ∧ Below wc.heap.size wc wr) (fun _ i _ => N - (intOf i).toNat)
    case atStart => exact ⟨0, by omega, rfl, Own.nil _ _ _ _, Below.refl _ _⟩
    case round =>
     obtain ⟨k, hk, rfl, hown, hbel⟩ := hrel
     have HO := hide hown
     have hcr := below_cells hbel
     have hz := hbel.size
     have hlen := lowL_len X1 Y2 k
     have HS := hide (lowL_succ X1 Y2 k)
     by_cases hlt : k < N
     ·clear hown
      go_wp2_with (at_builtin; refine wpList_app pairE T_pairs rfl _ _ rfl wc.heap.size _ _ (lowL X1 Y2 k) rfl HO.out ((X1 + (k : Int), Y2 - 1), (X1 + (k : Int), Y2)) _ _ rfl _ rfl rfl (by omega) (by omega) (by omega) ?_; intro g c w' hown' hbel'; have HO' := hide hown'; clear hown')
      go_roundw
      case rel => exact ⟨k + 1, by omega, by go_num, by rw [HS.out]; have h9 := HO'.out; rw [hlen] at h9; exact h9, hbel.trans hbel'⟩
      case measure => simp [intOf]; omega
     ·obtain rfl : k = N := by omega
      clear hown
      go_wp2
      go_ret2
      exact ⟨_, rfl, hx.of_below hbel hx.size, by rw [HB.out]; exact HO.out.lower hx.size⟩
   ·have hrow' : boxY W s lo = boxY W s hi := by simpa using hrow
    have hbl : borderL W H s lo hi = sideL (boxX W s hi) (boxY W s lo) (boxH W H s lo).toNat := by unfold borderL; rw [if_pos hrow']
    clear hrow'
    obtain ⟨N, hN⟩ : ∃ N : Nat, boxH W H s lo = (N : Int) := ⟨(boxH W H s lo).toNat, by omega⟩
    rw [hN] at sl p3 hbl
    rw [Int.toNat_natCast] at hbl
    clear hN
    have HB := hide hbl
    clear hbl
    generalize boxX W s hi = X2 at *
    generalize boxY W s lo = Y1 at *
    go_wp2
    go_loopw [11, 53] (fun out i wr => ∃ k : Nat, k ≤ N ∧ i = .int .i64 k ∧ Own pairE wr wc.heap.size 264 out (sideL X2 Y1 k) ∧ Below wc.heap.size wc wr) (fun _ i _ => N - (intOf i).toNat)
    case atStart => exact ⟨0, by omega, rfl, Own.nil _ _ _ _, Below.refl _ _⟩
    case round =>
     obtain ⟨k, hk, rfl, hown, hbel⟩ := hrel
     have HO := hide hown
     have hcr := below_cells hbel
     have hz := hbel.size
     have hlen := sideL_len X2 Y1 k
     have HS := hide (sideL_succ X2 Y1 k)
     by_cases hlt : k < N
     ·clear hown
      go_wp2_with (at_builtin; refine wpList_app pairE T_pairs rfl _ _ rfl wc.heap.size _ _ (sideL X2 Y1 k) rfl HO.out ((X2 - 1, Y1 + (k : Int)), (X2, Y1 + (k : Int))) _ _ rfl _ rfl rfl (by omega) (by omega) (by omega) ?_; intro g c w' hown' hbel'; have HO' := hide hown'; clear hown')
      go_roundw
      case rel => exact ⟨k + 1, by omega, by go_num, by rw [HS.out]; have h9 := HO'.out; rw [hlen] at h9; exact h9, hbel.trans hbel'⟩
      case measure => simp [intOf]; omega
     ·obtain rfl : k = N := by omega
      clear hown
      go_wp2
      go_ret2
      exact ⟨_, rfl, hx.of_below hbel hx.size, by rw [HB.out]; exact HO.out.lower hx.size⟩

def wantL (W H s a b : Int) : List (Cell × Cell) := if hasI (besideL W H s (min a b)) (max a b) = true then borderL W H s (min a b) (max a b) else []

theorem boxP_nat {W H s id : Int} (hr : rightB W H s = true) (h0 : 0 ≤ id) (hid : id < cnt W H s) : boxP W H s id = ((boxX W s id, boxY W s id), (((boxW W s id).toNat : Int), ((boxH W H s id).toNat : Int))) := by
 have z := box_sz hr h0 hid
 rw [Int.toNat_of_nonneg (by omega), Int.toNat_of_nonneg (by omega)]; rfl

theorem rBorder_law (g c N : Nat) (W H s : Int) (a b : Nat) (w : World) (hr : rightB W H s = true) (hN : (boxesAll W H s).length = N) (ha : a < N) (hb : b < N) (hR : Reads pairE w (.slice (some ⟨g, 0, none⟩) N c) (boxesAll W H s)) :
  Calls Tryz.prog 118 #[.slice (some ⟨g, 0, none⟩) N c, .int .i64 (a : Int), .int .i64 (b : Int)] w (RetPairs1 w (wantL W H s (a : Int) (b : Int))) := by
 have b0 := cnt_bd hr
 have hl := boxesAll_len hr
 by_cases he : a = b
 ·subst he
  have e : wantL W H s (a : Int) (a : Int) = [] := by
   unfold wantL
   rw [show min (a : Int) (a : Int) = a by omega, show max (a : Int) (a : Int) = a by omega, beside_self hr]; rfl
  rw [e]
  exact rBorder_same _ _ w
 ·have l1 : ((min a b : Nat) : Int) < cnt W H s := by omega
  have l2 : ((max a b : Nat) : Int) < cnt W H s := by omega
  have hlo := boxesAll_at hr (min a b) l1
  have hhi := boxesAll_at hr (max a b) l2
  have bl := box_bd hr (id := ((min a b : Nat) : Int)) (by omega) l1
  have zl := box_sz hr (id := ((min a b : Nat) : Int)) (by omega) l1
  have bh := box_bd hr (id := ((max a b : Nat) : Int)) (by omega) l2
  obtain ⟨h1, h2, h3, h4, h5, h6⟩ := rightB_true.1 hr
  rw [boxP_nat hr (by omega) l1] at hlo
  have e : wantL W H s (a : Int) (b : Int) = bAll (boxP W H s ((max a b : Nat) : Int)) (boxX W s ((min a b : Nat) : Int)) (boxY W s ((min a b : Nat) : Int)) (boxW W s ((min a b : Nat) : Int)).toNat (boxH W H s ((min a b : Nat) : Int)).toNat := by
   rw [bAll_border hr (by omega) (by omega) l2]
   unfold wantL
   rw [show ((min a b : Nat) : Int) = min (a : Int) (b : Int) by omega, show ((max a b : Nat) : Int) = max (a : Int) (b : Int) by omega]
  rw [e]
  rw [← hN] at hR ⊢
  exact rBorder_two g c (boxesAll W H s) a b _ _ _ _ _ _ _ _ w (by omega) hR he hlo hhi ⟨by omega, by omega, by omega, by omega, by omega, by omega, by omega, by omega⟩

theorem hasE_out {W H s : Int} {l : List Int} (hr : rightB W H s = true) (h : l.any (bad W H s) = true) : hasE W H s l = 10 := by simp [hasE, hr, h]
theorem bad_out {W H s id : Int} (h : ¬ (0 ≤ id ∧ id < cnt W H s)) : bad W H s id = true := by
 cases hb : bad W H s id
 ·exact absurd (bad_false_iff.1 hb) h
 ·rfl
theorem Border_range (W H s a b : Int) (w : World) (hr : rightB W H s = true) (h : ¬ (0 ≤ a ∧ a < cnt W H s) ∨ ¬ (0 ≤ b ∧ b < cnt W H s)) :
  Calls Tryz.prog 162 #[.agg #[.int .i64 W, .int .i64 H, .int .i64 s], .int .i64 a, .int .i64 b] w fun e w' => e = .returned (.tuple #[.slice none 0 0, .int .i64 10]) ∧ Ext w w' := by
 have e := hasE_out (l := [a, b]) hr (by rcases h with h | h <;> simp [bad_out h])
 have h' := Border_err W H s a b w (by rw [e]; rfl)
 rwa [e] at h'

theorem borderL_pos {W H s lo hi : Int} (hr : rightB W H s = true) (h0 : 0 ≤ lo) (h1 : lo < cnt W H s) : 1 ≤ (borderL W H s lo hi).length := by
 have z := box_sz hr h0 h1
 unfold borderL
 split
 ·rw [sideL_len]; omega
 ·rw [lowL_len]; omega
end Go.Proofs.YtkioohhjjdlhiaaGreat
