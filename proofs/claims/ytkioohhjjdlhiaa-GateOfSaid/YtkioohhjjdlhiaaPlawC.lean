/- Plain laws: cells side by side of two clusters: how the clusters lie, and which pairs their border has. -/
import Derived.Test.YtkioohhjjdlhiaaRefC
set_option linter.all false
set_option linter.unusedVariables false
set_option linter.unusedSimpArgs false
namespace Go.Proofs.Ytkioohhjjdlhiaa
open Go.RowKit

/-- p is left of q, or above it. -/
def Left (p q : Cell) : Prop := q.1 = p.1 + 1 ∧ q.2 = p.2
def Above (p q : Cell) : Prop := q.1 = p.1 ∧ q.2 = p.2 + 1

theorem div_next {x s : Int} (hs : 1 ≤ s) (hne : (x + 1) / s ≠ x / s) : (x + 1) / s = x / s + 1 ∧ (x + 1) / s * s = x + 1 := by
  have q1 := Int.emod_add_mul_ediv x s
  have q2 := Int.emod_lt_of_pos x (show 0 < s by omega)
  have q3 : 0 ≤ x % s := Int.emod_nonneg _ (by omega)
  rw [Int.mul_comm] at q1
  by_cases h : x % s + 1 < s
  · exact absurd (div_uniq (u := x / s) (by omega) (by omega) (by omega)) hne
  · have e : (x / s + 1) * s = x / s * s + s := by rw [Int.add_mul]; omega
    have : (x + 1) / s = x / s + 1 := div_uniq (by omega) (by omega) (by omega)
    exact ⟨this, by rw [this]; omega⟩

theorem mod_div_of {W s x y : Int} (h1 : 0 ≤ x / s) (h2 : x / s < acr W s) : ofN W s x y % acr W s = x / s ∧ ofN W s x y / acr W s = y / s := by
  unfold ofN
  constructor
  · rw [Int.add_comm, Int.add_mul_emod_self_right]
    exact Int.emod_eq_of_lt h1 h2
  · rw [Int.add_comm, Int.add_mul_ediv_right _ _ (by omega), Int.ediv_eq_zero_of_lt h1 h2]
    omega

theorem left_of {W H s : Int} {p q : Cell} (hr : rightB W H s = true) (hp : inB W H p.1 p.2 = true) (hq : inB W H q.1 q.2 = true) (hl : Left p q) (hne : ofN W s p.1 p.2 ≠ ofN W s q.1 q.2) :
    ofN W s q.1 q.2 = ofN W s p.1 p.2 + 1 ∧ ofN W s p.1 p.2 % acr W s < acr W s - 1 ∧ boxX W s (ofN W s q.1 q.2) = q.1 := by
  obtain ⟨h1, h2, h3, h4, h5, h6⟩ := rightB_true.1 hr
  obtain ⟨_, _, _, _, i1, i2, i3, i4⟩ := inB_true.1 hp
  obtain ⟨_, _, _, _, j1, j2, j3, j4⟩ := inB_true.1 hq
  obtain ⟨l1, l2⟩ := hl
  have a1 := x_lt_acr (W := W) (s := s) (by omega) i1 i2
  have a2 := Int.ediv_nonneg i1 (show 0 ≤ s by omega)
  have b1 := x_lt_acr (W := W) (s := s) (by omega) j1 j2
  have b2 := Int.ediv_nonneg j1 (show 0 ≤ s by omega)
  have mp := mod_div_of (y := p.2) a2 a1
  have mq := mod_div_of (y := q.2) b2 b1
  have hne' : (p.1 + 1) / s ≠ p.1 / s := by
    intro e
    apply hne
    unfold ofN
    rw [l1, l2, e]
  have dn := div_next (by omega) hne'
  rw [← l1] at dn
  refine ⟨?_, ?_, ?_⟩
  · unfold ofN; rw [dn.1, l2]; omega
  · rw [mp.1]; omega
  · unfold boxX; rw [mq.1]; exact dn.2

theorem above_of {W H s : Int} {p q : Cell} (hr : rightB W H s = true) (hp : inB W H p.1 p.2 = true) (hq : inB W H q.1 q.2 = true) (hl : Above p q) (hne : ofN W s p.1 p.2 ≠ ofN W s q.1 q.2) :
    ofN W s q.1 q.2 = ofN W s p.1 p.2 + acr W s ∧ boxY W s (ofN W s q.1 q.2) = q.2 := by
  obtain ⟨h1, h2, h3, h4, h5, h6⟩ := rightB_true.1 hr
  obtain ⟨_, _, _, _, i1, i2, i3, i4⟩ := inB_true.1 hp
  obtain ⟨_, _, _, _, j1, j2, j3, j4⟩ := inB_true.1 hq
  obtain ⟨l1, l2⟩ := hl
  have b1 := x_lt_acr (W := W) (s := s) (by omega) j1 j2
  have b2 := Int.ediv_nonneg j1 (show 0 ≤ s by omega)
  have mq := mod_div_of (y := q.2) b2 b1
  have hne' : (p.2 + 1) / s ≠ p.2 / s := by
    intro e
    apply hne
    unfold ofN
    rw [l1, l2, e]
  have dn := div_next (by omega) hne'
  rw [← l2] at dn
  refine ⟨?_, ?_⟩
  · unfold ofN; rw [dn.1, l1, Int.add_mul]; omega
  · unfold boxY; rw [mq.2]; exact dn.2

theorem mem_opt {b : Bool} {n x : Int} : x ∈ opt b n ↔ b = true ∧ x = n := by cases b <;> simp [opt]
theorem count_opt (b : Bool) (n x : Int) : (opt b n).count x = if b = true ∧ x = n then 1 else 0 := by
  cases b
  · simp [opt]
  · simp only [opt, if_true, List.count_cons, List.count_nil, true_and]
    by_cases h : n = x
    · simp [h]
    · have h' : ¬ x = n := fun e => h e.symm
      simp [h, h']

theorem hasI_iff {l : List Int} {x : Int} : hasI l x = true ↔ x ∈ l := by simp [hasI]

theorem beside_mem {W H s id x : Int} : x ∈ besideL W H s id ↔ (acr W s ≤ id ∧ x = id - acr W s) ∨ (id % acr W s < acr W s - 1 ∧ x = id + 1) ∨ (id + acr W s < cnt W H s ∧ x = id + acr W s) ∨ (0 < id % acr W s ∧ x = id - 1) := by
  simp only [besideL, List.mem_append, mem_opt, decide_eq_true_eq]
  constructor
  · rintro (((h | h) | h) | h)
    · exact .inl h
    · exact .inr (.inl h)
    · exact .inr (.inr (.inl h))
    · exact .inr (.inr (.inr h))
  · rintro (h | h | h | h)
    · exact .inl (.inl (.inl h))
    · exact .inl (.inl (.inr h))
    · exact .inl (.inr h)
    · exact .inr h

/-- No cluster is beside another one twice. -/
theorem beside_once {W H s id x : Int} (ha : 1 ≤ acr W s) (h : x ∈ besideL W H s id) : (besideL W H s id).count x = 1 := by
  rw [beside_mem] at h
  have m0 : 0 ≤ id % acr W s := Int.emod_nonneg _ (by omega)
  have m1 := Int.emod_lt_of_pos id (show 0 < acr W s by omega)
  simp only [besideL, List.count_append, count_opt, decide_eq_true_eq]
  generalize acr W s = a at *
  generalize id % a = m at *
  rcases h with h | h | h | h
  all_goals
    (repeat' split) <;> omega

/-! ### What a border is made of -/

theorem sideL_at (X Y : Int) (n k : Nat) (h : k < n) : (sideL X Y n)[k]? = some ((X - 1, Y + (k : Int)), (X, Y + (k : Int))) := by
  simp [sideL, List.getElem?_map, List.getElem?_range h]
theorem lowL_at (X Y : Int) (n k : Nat) (h : k < n) : (lowL X Y n)[k]? = some ((X + (k : Int), Y - 1), (X + (k : Int), Y)) := by
  simp [lowL, List.getElem?_map, List.getElem?_range h]

theorem in_box {W H s : Int} (hr : rightB W H s = true) {id : Int} (h0 : 0 ≤ id) (hid : id < cnt W H s) {x y : Int} (hx : boxX W s id ≤ x ∧ x < boxX W s id + boxW W s id) (hy : boxY W s id ≤ y ∧ y < boxY W s id + boxH W H s id) :
    inB W H x y = true ∧ ofN W s x y = id := by
  obtain ⟨h1, h2, h3, h4, h5, h6⟩ := rightB_true.1 hr
  have bb := box_bd hr h0 hid
  have hh : hasP x y (boxP W H s id) = true := by
    unfold hasP boxP; rw [hasB_true]; exact ⟨hx.1, hx.2, hy.1, hy.2⟩
  unfold boxW at hx
  unfold boxH at hy
  have hin : inB W H x y = true := inB_true.2 ⟨by omega, by omega, by omega, by omega, by omega, by omega, by omega, by omega⟩
  exact ⟨hin, ((hasP_box hr hin h0 hid).1 hh).symm⟩

/-- How two clusters side by side lie: lo is left of hi, or above it. -/
structure Pair (W H s lo hi : Int) : Prop where
  lo0 : 0 ≤ lo
  hi1 : hi < cnt W H s
  way : (hi = lo + 1 ∧ lo % acr W s < acr W s - 1) ∨ hi = lo + acr W s

theorem Pair.lt {W H s lo hi : Int} (hr : rightB W H s = true) (h : Pair W H s lo hi) : lo < hi := by
  obtain ⟨h1, h2, h3, h4, h5, h6⟩ := rightB_true.1 hr
  have b1 := acr_bd W s h5 h6 h1 h2
  rcases h.way with h | h <;> omega

theorem Pair.right {W H s lo : Int} (hr : rightB W H s = true) (h0 : 0 ≤ lo) (hw : lo % acr W s < acr W s - 1) :
    boxX W s (lo + 1) = boxX W s lo + s ∧ boxY W s (lo + 1) = boxY W s lo := by
  obtain ⟨h1, h2, h3, h4, h5, h6⟩ := rightB_true.1 hr
  have b1 := acr_bd W s h5 h6 h1 h2
  have e := Int.emod_add_mul_ediv lo (acr W s)
  have m0 : 0 ≤ lo % acr W s := Int.emod_nonneg _ (by omega)
  have hm : (lo + 1) % acr W s = lo % acr W s + 1 := by
    have : lo + 1 = (lo % acr W s + 1) + acr W s * (lo / acr W s) := by omega
    rw [this, Int.add_mul_emod_self_left]
    exact Int.emod_eq_of_lt (by omega) (by omega)
  have hd : (lo + 1) / acr W s = lo / acr W s := by
    have : lo + 1 = (lo % acr W s + 1) + acr W s * (lo / acr W s) := by omega
    rw [this, Int.add_mul_ediv_left _ _ (by omega), Int.ediv_eq_zero_of_lt (by omega) (by omega)]
    omega
  unfold boxX boxY
  rw [hm, hd, Int.add_mul]
  omega

theorem Pair.low {W H s lo : Int} (hr : rightB W H s = true) : boxX W s (lo + acr W s) = boxX W s lo ∧ boxY W s (lo + acr W s) = boxY W s lo + s := by
  obtain ⟨h1, h2, h3, h4, h5, h6⟩ := rightB_true.1 hr
  have b1 := acr_bd W s h5 h6 h1 h2
  unfold boxX boxY
  have hm : (lo + acr W s) % acr W s = lo % acr W s := Int.add_emod_right _ _
  have hd : (lo + acr W s) / acr W s = lo / acr W s + 1 := by
    have := Int.add_mul_ediv_right lo 1 (show acr W s ≠ 0 by omega)
    rwa [Int.one_mul] at this
  rw [hm, hd, Int.add_mul]
  omega

/-- The k-th pair of the border of two clusters that lie so. -/
theorem border_at {W H s lo hi : Int} (hr : rightB W H s = true) (h : Pair W H s lo hi) {k : Nat} {p : Cell × Cell} (hk : (borderL W H s lo hi)[k]? = some p) :
    inB W H p.1.1 p.1.2 = true ∧ inB W H p.2.1 p.2.2 = true ∧ ofN W s p.1.1 p.1.2 = lo ∧ ofN W s p.2.1 p.2.2 = hi ∧
    ((hi = lo + 1 ∧ lo % acr W s < acr W s - 1 ∧ p = ((boxX W s hi - 1, boxY W s lo + (k : Int)), (boxX W s hi, boxY W s lo + (k : Int))) ∧ (k : Int) < boxH W H s lo) ∨
     (boxY W s lo ≠ boxY W s hi ∧ p = ((boxX W s lo + (k : Int), boxY W s hi - 1), (boxX W s lo + (k : Int), boxY W s hi)) ∧ (k : Int) < boxW W s lo)) := by
  obtain ⟨h1, h2, h3, h4, h5, h6⟩ := rightB_true.1 hr
  have b1 := acr_bd W s h5 h6 h1 h2
  have hlt := h.lt hr
  have zl := box_sz hr h.lo0 (by have := h.hi1; omega)
  have zh := box_sz hr (id := hi) (by have := h.lo0; omega) h.hi1
  have bl := box_bd hr h.lo0 (by have := h.hi1; omega)
  have bh := box_bd hr (id := hi) (by have := h.lo0; omega) h.hi1
  by_cases hrow : boxY W s lo = boxY W s hi
  · rcases h.way with ⟨e, hw⟩ | e
    · have pr := Pair.right hr h.lo0 hw
      rw [← e] at pr
      unfold borderL at hk
      rw [if_pos hrow] at hk
      have hkn : k < (boxH W H s lo).toNat := by
        have := (List.getElem?_eq_some_iff.1 hk).1
        rwa [sideL_len] at this
      rw [sideL_at _ _ _ _ hkn] at hk
      have hp := (Option.some.inj hk).symm
      subst hp
      have hkH : (k : Int) < boxH W H s lo := by omega
      have A := in_box hr h.lo0 (by have := h.hi1; omega) (x := boxX W s hi - 1) (y := boxY W s lo + (k : Int)) ⟨by omega, by unfold boxW; omega⟩ ⟨by omega, by omega⟩
      have B := in_box hr (id := hi) (by have := h.lo0; omega) h.hi1 (x := boxX W s hi) (y := boxY W s lo + (k : Int)) ⟨by omega, by omega⟩ ⟨by omega, by unfold boxH at hkH ⊢; rw [← hrow]; omega⟩
      exact ⟨A.1, B.1, A.2, B.2, .inl ⟨e, hw, rfl, hkH⟩⟩
    · have pl := Pair.low (lo := lo) hr
      rw [← e] at pl
      omega
  · have e : hi = lo + acr W s := by
      rcases h.way with ⟨e, hw⟩ | e
      · have pr := Pair.right hr h.lo0 hw
        rw [← e] at pr
        exact absurd pr.2.symm hrow
      · exact e
    have pl := Pair.low (lo := lo) hr
    rw [← e] at pl
    unfold borderL at hk
    rw [if_neg hrow] at hk
    have hkn : k < (boxW W s lo).toNat := by
      have := (List.getElem?_eq_some_iff.1 hk).1
      rwa [lowL_len] at this
    rw [lowL_at _ _ _ _ hkn] at hk
    have hp := (Option.some.inj hk).symm
    subst hp
    have hkW : (k : Int) < boxW W s lo := by omega
    have A := in_box hr h.lo0 (by have := h.hi1; omega) (x := boxX W s lo + (k : Int)) (y := boxY W s hi - 1) ⟨by omega, by omega⟩ ⟨by omega, by unfold boxH; omega⟩
    have B := in_box hr (id := hi) (by have := h.lo0; omega) h.hi1 (x := boxX W s lo + (k : Int)) (y := boxY W s hi) ⟨by omega, by unfold boxW at hkW ⊢; rw [pl.1]; omega⟩ ⟨by omega, by omega⟩
    exact ⟨A.1, B.1, A.2, B.2, .inr ⟨hrow, rfl, hkW⟩⟩

theorem box_has {W H s : Int} {p : Cell} (hr : rightB W H s = true) (hp : inB W H p.1 p.2 = true) :
    boxX W s (ofN W s p.1 p.2) ≤ p.1 ∧ p.1 < boxX W s (ofN W s p.1 p.2) + boxW W s (ofN W s p.1 p.2) ∧ boxY W s (ofN W s p.1 p.2) ≤ p.2 ∧ p.2 < boxY W s (ofN W s p.1 p.2) + boxH W H s (ofN W s p.1 p.2) := by
  have ob := ofN_bd hr hp
  have h := (hasP_box hr hp ob.1 ob.2).2 rfl
  unfold hasP boxP at h
  exact hasB_true.1 h

/-- Two cells side by side of two clusters: how these lie, and the one place of the pair in their border. -/
theorem border_has {W H s : Int} {p q : Cell} (hr : rightB W H s = true) (hp : inB W H p.1 p.2 = true) (hq : inB W H q.1 q.2 = true) (hl : Left p q ∨ Above p q) (hne : ofN W s p.1 p.2 ≠ ofN W s q.1 q.2) :
    Pair W H s (ofN W s p.1 p.2) (ofN W s q.1 q.2) ∧ ∃ k0 : Nat, k0 < (borderL W H s (ofN W s p.1 p.2) (ofN W s q.1 q.2)).length ∧ ∀ (j : Nat) (r : Cell × Cell), (borderL W H s (ofN W s p.1 p.2) (ofN W s q.1 q.2))[j]? = some r → (r = (p, q) ↔ j = k0) := by
  obtain ⟨h1, h2, h3, h4, h5, h6⟩ := rightB_true.1 hr
  have b1 := acr_bd W s h5 h6 h1 h2
  have op := ofN_bd hr hp
  have oq := ofN_bd hr hq
  have bp := box_has hr hp
  have bq := box_has hr hq
  obtain ⟨p1, p2⟩ := p
  obtain ⟨q1, q2⟩ := q
  rcases hl with hl | hl
  · have lf := left_of hr hp hq hl hne
    obtain ⟨l1, l2⟩ := hl
    simp only at *
    generalize hlo : ofN W s p1 p2 = lo at *
    generalize hhi : ofN W s q1 q2 = hi at *
    obtain ⟨e, hw, hX⟩ := lf
    have pr := Pair.right hr op.1 hw
    rw [← e] at pr
    have hrow : boxY W s lo = boxY W s hi := pr.2.symm
    refine ⟨⟨op.1, oq.2, .inl ⟨e, hw⟩⟩, (p2 - boxY W s lo).toNat, ?_, ?_⟩
    · unfold borderL
      rw [if_pos hrow, sideL_len]
      omega
    · intro j r hj
      unfold borderL at hj
      rw [if_pos hrow] at hj
      have hjn : j < (boxH W H s lo).toNat := by
        have := (List.getElem?_eq_some_iff.1 hj).1
        rwa [sideL_len] at this
      rw [sideL_at _ _ _ _ hjn] at hj
      have hr' := (Option.some.inj hj).symm
      subst hr'
      simp only [Prod.mk.injEq]
      omega
  · have lf := above_of hr hp hq hl hne
    obtain ⟨l1, l2⟩ := hl
    simp only at *
    generalize hlo : ofN W s p1 p2 = lo at *
    generalize hhi : ofN W s q1 q2 = hi at *
    obtain ⟨e, hY⟩ := lf
    have pl := Pair.low (lo := lo) hr
    rw [← e] at pl
    have hrow : ¬ boxY W s lo = boxY W s hi := by omega
    refine ⟨⟨op.1, oq.2, .inr e⟩, (p1 - boxX W s lo).toNat, ?_, ?_⟩
    · unfold borderL
      rw [if_neg hrow, lowL_len]
      omega
    · intro j r hj
      unfold borderL at hj
      rw [if_neg hrow] at hj
      have hjn : j < (boxW W s lo).toNat := by
        have := (List.getElem?_eq_some_iff.1 hj).1
        rwa [lowL_len] at this
      rw [lowL_at _ _ _ _ hjn] at hj
      have hr' := (Option.some.inj hj).symm
      subst hr'
      simp only [Prod.mk.injEq]
      omega

theorem Pair.mem {W H s lo hi : Int} (hr : rightB W H s = true) (h : Pair W H s lo hi) : hi ∈ besideL W H s lo ∧ lo ∈ besideL W H s hi := by
  obtain ⟨h1, h2, h3, h4, h5, h6⟩ := rightB_true.1 hr
  have b1 := acr_bd W s h5 h6 h1 h2
  have hlt := h.lt hr
  have h0 := h.lo0
  have h7 := h.hi1
  rw [beside_mem, beside_mem]
  rcases h.way with ⟨e, hw⟩ | e
  · refine ⟨.inr (.inl ⟨hw, e⟩), .inr (.inr (.inr ⟨?_, by omega⟩))⟩
    have e' := Int.emod_add_mul_ediv lo (acr W s)
    have m0 : 0 ≤ lo % acr W s := Int.emod_nonneg _ (by omega)
    have : hi = (lo % acr W s + 1) + acr W s * (lo / acr W s) := by omega
    rw [this, Int.add_mul_emod_self_left, Int.emod_eq_of_lt (by omega) (by omega)]
    omega
  · exact ⟨.inr (.inr (.inl ⟨by omega, e⟩)), .inl ⟨by omega, by omega⟩⟩

theorem beside_self {W H s id : Int} (hr : rightB W H s = true) : hasI (besideL W H s id) id = false := by
  obtain ⟨h1, h2, h3, h4, h5, h6⟩ := rightB_true.1 hr
  have b1 := acr_bd W s h5 h6 h1 h2
  cases h : hasI (besideL W H s id) id
  · rfl
  · rw [hasI_iff, beside_mem] at h
    omega

theorem borderL_len {W H s lo hi : Int} (hr : rightB W H s = true) (h0 : 0 ≤ lo) (h1 : lo < cnt W H s) : (borderL W H s lo hi).length ≤ 16 := by
  have z := box_sz hr h0 h1
  unfold borderL
  split
  · rw [sideL_len]; omega
  · rw [lowL_len]; omega
end Go.Proofs.Ytkioohhjjdlhiaa
