/- Plain laws: the references' Beside and Border are the clusters beside one, and the pairs along a border. -/
import Derived.Test.YtkioohhjjdlhiaaPlawC
import Derived.Test.YtkioohhjjdlhiaaRefP
set_option linter.all false
set_option linter.unusedVariables false
set_option linter.unusedSimpArgs false
namespace Go.Proofs.Ytkioohhjjdlhiaa
open Go.RowKit

theorem opt_if {c : Prop} [Decidable c] {n v : Int} (h1 : c → n = v ∧ 0 ≤ v) (h2 : ¬ c → n = -1) : opt (decide (0 ≤ n)) n = opt (decide c) v := by
  by_cases h : c
  · obtain ⟨rfl, h3⟩ := h1 h
    simp [opt, h, h3]
  · have := h2 h
    subst this
    simp [opt, h]

theorem fOf_box {W H s : Int} (hr : rightB W H s = true) {id : Int} (h0 : 0 ≤ id) (hid : id < cnt W H s) {x y : Int} (hx : boxX W s id ≤ x ∧ x < boxX W s id + boxW W s id) (hy : boxY W s id ≤ y ∧ y < boxY W s id + boxH W H s id) :
    fOf (boxesAll W H s) x y = id := by
  have A := in_box hr h0 hid hx hy
  rw [fOf_in hr A.1, A.2]

theorem acr_top {L s : Int} (hs : 1 ≤ s) : L ≤ acr L s * s := by
  unfold acr
  have h := Int.emod_add_mul_ediv (L + s - 1) s
  have h2 := Int.emod_lt_of_pos (L + s - 1) (show 0 < s by omega)
  rw [Int.mul_comm] at h
  omega

theorem row_lt {W H s id : Int} (hr : rightB W H s = true) (hid : id < cnt W H s) : id / acr W s < acr H s := by
  obtain ⟨h1, h2, h3, h4, h5, h6⟩ := rightB_true.1 hr
  have b1 := acr_bd W s h5 h6 h1 h2
  exact Int.ediv_lt_of_lt_mul (by omega) (by unfold cnt at hid; rw [Int.mul_comm] at hid; exact hid)

/-- How a cluster lies in its row and column. -/
theorem lies {W H s id : Int} (hr : rightB W H s = true) (h0 : 0 ≤ id) (hid : id < cnt W H s) :
    (acr W s ≤ id ↔ 0 < boxY W s id) ∧ (0 < id % acr W s ↔ 0 < boxX W s id) ∧
    (id % acr W s < acr W s - 1 → id + 1 < cnt W H s) ∧ (¬ id % acr W s < acr W s - 1 → W ≤ boxX W s id + s) ∧ (¬ id + acr W s < cnt W H s → H ≤ boxY W s id + s) := by
  obtain ⟨h1, h2, h3, h4, h5, h6⟩ := rightB_true.1 hr
  have b1 := acr_bd W s h5 h6 h1 h2
  have b2 := acr_bd H s h5 h6 h3 h4
  have e := Int.emod_add_mul_ediv id (acr W s)
  have m0 : 0 ≤ id % acr W s := Int.emod_nonneg _ (by omega)
  have m1 := Int.emod_lt_of_pos id (show 0 < acr W s by omega)
  have d0 : 0 ≤ id / acr W s := Int.ediv_nonneg h0 (by omega)
  have d1 := row_lt hr hid
  have t1 := acr_top (L := W) (s := s) (by omega)
  have t2 := acr_top (L := H) (s := s) (by omega)
  unfold boxX boxY cnt at *
  generalize id % acr W s = m at *
  generalize id / acr W s = d at *
  generalize acr W s = a at *
  generalize acr H s = c at *
  have ad := Int.mul_nonneg (show 0 ≤ a by omega) d0
  have ac : a * (d + 1) ≤ a * c := Int.mul_le_mul_of_nonneg_left (by omega) (by omega)
  rw [Int.mul_add, Int.mul_one] at ac
  refine ⟨⟨fun h => ?_, fun h => ?_⟩, ⟨fun h => ?_, fun h => ?_⟩, fun h => ?_, fun h => ?_, fun h => ?_⟩
  · have : 0 < d := by
      apply Int.lt_of_not_ge
      intro hd
      have : d = 0 := by omega
      subst this
      simp at e
      omega
    exact Int.mul_pos this (by omega)
  · have : 0 < d := by
      apply Int.lt_of_not_ge
      intro hd
      have : d = 0 := by omega
      subst this
      simp at h
    have : a * 1 ≤ a * d := Int.mul_le_mul_of_nonneg_left (by omega) (by omega)
    omega
  · exact Int.mul_pos h (by omega)
  · apply Int.lt_of_not_ge
    intro hd
    have : m = 0 := by omega
    subst this
    simp at h
  · omega
  · have : m = a - 1 := by omega
    subst this
    rw [Int.sub_mul]; omega
  · have : d = c - 1 := by
      apply Int.le_antisymm (by omega)
      apply Int.le_of_not_gt
      intro hd
      have : a * (d + 2) ≤ a * c := Int.mul_le_mul_of_nonneg_left (by omega) (by omega)
      rw [Int.mul_add] at this
      omega
    subst this
    rw [Int.sub_mul]; omega

theorem off_x {W H x y : Int} (h : x < 0 ∨ W ≤ x) : inB W H x y = false := by
  cases hh : inB W H x y
  · rfl
  · have := inB_true.1 hh; omega
theorem off_y {W H x y : Int} (h : y < 0 ∨ H ≤ y) : inB W H x y = false := by
  cases hh : inB W H x y
  · rfl
  · have := inB_true.1 hh; omega

/-- The clusters that the reference finds beside one. -/
theorem nbL_all {W H s id : Int} (hr : rightB W H s = true) (h0 : 0 ≤ id) (hid : id < cnt W H s) : nbL (boxesAll W H s) (boxP W H s id) 4 = besideL W H s id := by
  obtain ⟨h1, h2, h3, h4, h5, h6⟩ := rightB_true.1 hr
  have b1 := acr_bd W s h5 h6 h1 h2
  have bb := box_bd hr h0 hid
  have zz := box_sz hr h0 hid
  have li := lies hr h0 hid
  have e4 : nbL (boxesAll W H s) (boxP W H s id) 4 = opt (decide (0 ≤ nbOf (boxesAll W H s) (boxP W H s id) 0)) (nbOf (boxesAll W H s) (boxP W H s id) 0) ++ opt (decide (0 ≤ nbOf (boxesAll W H s) (boxP W H s id) 1)) (nbOf (boxesAll W H s) (boxP W H s id) 1) ++ opt (decide (0 ≤ nbOf (boxesAll W H s) (boxP W H s id) 2)) (nbOf (boxesAll W H s) (boxP W H s id) 2) ++ opt (decide (0 ≤ nbOf (boxesAll W H s) (boxP W H s id) 3)) (nbOf (boxesAll W H s) (boxP W H s id) 3) := by
    rw [nbL_succ _ _ 3, nbL_succ _ _ 2, nbL_succ _ _ 1, nbL_succ _ _ 0]; rfl
  have n0 : nbOf (boxesAll W H s) (boxP W H s id) 0 = fOf (boxesAll W H s) (boxX W s id) (boxY W s id - 1) := rfl
  have n1 : nbOf (boxesAll W H s) (boxP W H s id) 1 = fOf (boxesAll W H s) (boxX W s id + boxW W s id - 1 + 1) (boxY W s id) := rfl
  have n2 : nbOf (boxesAll W H s) (boxP W H s id) 2 = fOf (boxesAll W H s) (boxX W s id) (boxY W s id + boxH W H s id - 1 + 1) := rfl
  have n3 : nbOf (boxesAll W H s) (boxP W H s id) 3 = fOf (boxesAll W H s) (boxX W s id - 1) (boxY W s id) := rfl
  rw [e4, n0, n1, n2, n3]
  clear e4 n0 n1 n2 n3
  unfold besideL
  congr 1
  · congr 1
    · congr 1
      · refine opt_if (fun hc => ⟨?_, by omega⟩) (fun hc => fOf_out hr (off_y (by omega)))
        have pl := Pair.low (lo := id - acr W s) hr
        rw [show id - acr W s + acr W s = id by omega] at pl
        have q := box_sz hr (id := id - acr W s) (by omega) (by omega)
        refine fOf_box hr (by omega) (by omega) ⟨by omega, by omega⟩ ⟨by omega, ?_⟩
        unfold boxH; omega
      · refine opt_if (fun hc => ⟨?_, by omega⟩) (fun hc => fOf_out hr (off_x (.inr ?_)))
        · have pr := Pair.right hr h0 hc
          have q := box_sz hr (id := id + 1) (by omega) (li.2.2.1 hc)
          have q' := box_bd hr (id := id + 1) (by omega) (li.2.2.1 hc)
          have hw : boxW W s id = s := by unfold boxW; omega
          refine fOf_box hr (by omega) (li.2.2.1 hc) ⟨by omega, by omega⟩ ⟨by omega, by omega⟩
        · have := li.2.2.2.1 hc
          unfold boxW; omega
    · refine opt_if (fun hc => ⟨?_, by omega⟩) (fun hc => fOf_out hr (off_y (.inr ?_)))
      · have pl := Pair.low (lo := id) hr
        have q := box_sz hr (id := id + acr W s) (by omega) hc
        have q' := box_bd hr (id := id + acr W s) (by omega) hc
        have hw : boxH W H s id = s := by unfold boxH; omega
        refine fOf_box hr (by omega) hc ⟨by omega, by omega⟩ ⟨by omega, by omega⟩
      · have := li.2.2.2.2 hc
        unfold boxH; omega
  · have hm : 0 < id % acr W s → (id - 1) % acr W s < acr W s - 1 ∧ 1 ≤ id := by
      intro hc
      have e := Int.emod_add_mul_ediv id (acr W s)
      have m1 := Int.emod_lt_of_pos id (show 0 < acr W s by omega)
      have d0 : 0 ≤ acr W s * (id / acr W s) := Int.mul_nonneg (by omega) (Int.ediv_nonneg h0 (by omega))
      have : id - 1 = (id % acr W s - 1) + acr W s * (id / acr W s) := by omega
      rw [this, Int.add_mul_emod_self_left, Int.emod_eq_of_lt (by omega) (by omega)]
      omega
    refine opt_if (fun hc => ⟨?_, by have := (hm hc).2; omega⟩) (fun hc => fOf_out hr (off_x (by omega)))
    have hm' := hm hc
    have pr := Pair.right (lo := id - 1) hr (by omega) hm'.1
    rw [show id - 1 + 1 = id by omega] at pr
    have q := box_sz hr (id := id - 1) (by omega) (by omega)
    refine fOf_box hr (by omega) (by omega) ⟨by omega, ?_⟩ ⟨by omega, ?_⟩
    · unfold boxW; omega
    · unfold boxH; unfold boxH at zz; rw [← pr.2]; omega

theorem flat_nil {α : Type} {f : Nat → List α} (n : Nat) (h : ∀ i, i < n → f i = []) : (List.range n).flatMap f = [] := by
  induction n with
  | zero => simp
  | succ n ih => rw [List.range_succ, List.flatMap_append, ih (fun i hi => h i (by omega))]; simp [h n (by omega)]
theorem flat_last {α : Type} {f : Nat → List α} (n : Nat) (h : ∀ i, i < n → f i = []) : (List.range (n + 1)).flatMap f = f n := by
  rw [List.range_succ, List.flatMap_append, flat_nil n h]; simp
theorem flat_map {α : Type} {f : Nat → List α} {g : Nat → α} (n : Nat) (h : ∀ i, i < n → f i = [g i]) : (List.range n).flatMap f = (List.range n).map g := by
  induction n with
  | zero => simp
  | succ n ih => rw [List.range_succ, List.flatMap_append, ih (fun i hi => h i (by omega))]; simp [h n (by omega)]

theorem bDirs_two (b : Cell × Cell) (x y : Int) : bDirs b x y 2 = (if hasP (x + 1) y b = true then [((x, y), (x + 1, y))] else []) ++ (if hasP x (y + 1) b = true then [((x, y), (x, y + 1))] else []) := by
  rw [bDirs_succ, bDirs_succ]; rfl

theorem hasP_of {W H s x y hi : Int} (h : hasP x y (boxP W H s hi) = true) : (boxX W s hi ≤ x ∧ x < boxX W s hi + boxW W s hi) ∧ (boxY W s hi ≤ y ∧ y < boxY W s hi + boxH W H s hi) := by
  unfold hasP boxP at h; have := hasB_true.1 h; simp only at this; omega
theorem hasP_mk {W H s x y hi : Int} (h : (boxX W s hi ≤ x ∧ x < boxX W s hi + boxW W s hi) ∧ (boxY W s hi ≤ y ∧ y < boxY W s hi + boxH W H s hi)) : hasP x y (boxP W H s hi) = true := by
  unfold hasP boxP; refine hasB_true.2 ?_; simp only; omega
theorem hasP_no {W H s x y hi : Int} (h : ¬ ((boxX W s hi ≤ x ∧ x < boxX W s hi + boxW W s hi) ∧ (boxY W s hi ≤ y ∧ y < boxY W s hi + boxH W H s hi))) : hasP x y (boxP W H s hi) = false := by
  cases hh : hasP x y (boxP W H s hi)
  · rfl
  · exact absurd (hasP_of hh) h

theorem near_pair {W H s lo hi : Int} (hr : rightB W H s = true) (h0 : 0 ≤ lo) (hlt : lo < hi) (hid : hi < cnt W H s) : hasI (besideL W H s lo) hi = true ↔ Pair W H s lo hi := by
  obtain ⟨h1, h2, h3, h4, h5, h6⟩ := rightB_true.1 hr
  have b1 := acr_bd W s h5 h6 h1 h2
  rw [hasI_iff, beside_mem]
  constructor
  · rintro (h | h | h | h)
    · omega
    · exact ⟨h0, hid, .inl ⟨h.2, h.1⟩⟩
    · exact ⟨h0, hid, .inr h.2⟩
    · omega
  · intro h
    rcases h.way with h' | h'
    · exact .inr (.inl ⟨h'.2, h'.1⟩)
    · exact .inr (.inr (.inl ⟨by omega, h'⟩))

/-- The pairs that the reference lays along the border of two clusters. -/
theorem bAll_border {W H s lo hi : Int} (hr : rightB W H s = true) (h0 : 0 ≤ lo) (hlt : lo < hi) (hid : hi < cnt W H s) :
    bAll (boxP W H s hi) (boxX W s lo) (boxY W s lo) (boxW W s lo).toNat (boxH W H s lo).toNat = if hasI (besideL W H s lo) hi = true then borderL W H s lo hi else [] := by
  obtain ⟨h1, h2, h3, h4, h5, h6⟩ := rightB_true.1 hr
  have b1 := acr_bd W s h5 h6 h1 h2
  have bl := box_bd hr h0 (by omega)
  have zl := box_sz hr h0 (show lo < cnt W H s by omega)
  have bh := box_bd hr (show 0 ≤ hi by omega) hid
  have zh := box_sz hr (show 0 ≤ hi by omega) hid
  by_cases hP : Pair W H s lo hi
  · rw [if_pos ((near_pair hr h0 hlt hid).2 hP)]
    rcases hP.way with ⟨e, hw⟩ | e
    · have pr := Pair.right hr h0 hw
      rw [← e] at pr
      have hW : boxW W s lo = s := by unfold boxW; omega
      have hHH : boxH W H s hi = boxH W H s lo := by unfold boxH; rw [pr.2]
      unfold borderL
      rw [if_pos pr.2.symm]
      unfold bAll sideL
      refine flat_map (f := fun j : Nat => bRow (boxP W H s hi) (boxX W s lo) (boxY W s lo + (j : Int)) (boxW W s lo).toNat) _ (fun j hj => ?_)
      obtain ⟨n, hn⟩ : ∃ n : Nat, (boxW W s lo).toNat = n + 1 := ⟨(boxW W s lo).toNat - 1, by omega⟩
      rw [hn]
      unfold bRow
      rw [flat_last (f := fun i : Nat => bDirs (boxP W H s hi) (boxX W s lo + (i : Int)) (boxY W s lo + (j : Int)) 2)]
      · rw [bDirs_two, if_pos (hasP_mk ⟨⟨by omega, by omega⟩, by omega, by omega⟩), if_neg (by rw [hasP_no (by omega)]; simp), List.append_nil]
        simp only [List.cons.injEq, Prod.mk.injEq, and_true, true_and]
        omega
      · intro i hi'
        rw [bDirs_two, if_neg (by rw [hasP_no (by omega)]; simp), if_neg (by rw [hasP_no (by omega)]; simp), List.append_nil]
    · have pl := Pair.low (lo := lo) hr
      rw [← e] at pl
      have hH : boxH W H s lo = s := by unfold boxH; omega
      have hWW : boxW W s hi = boxW W s lo := by unfold boxW; rw [pl.1]
      unfold borderL
      rw [if_neg (by omega)]
      unfold bAll lowL
      obtain ⟨n, hn⟩ : ∃ n : Nat, (boxH W H s lo).toNat = n + 1 := ⟨(boxH W H s lo).toNat - 1, by omega⟩
      rw [hn]
      rw [flat_last (f := fun j : Nat => bRow (boxP W H s hi) (boxX W s lo) (boxY W s lo + (j : Int)) (boxW W s lo).toNat)]
      · unfold bRow
        refine flat_map (f := fun i : Nat => bDirs (boxP W H s hi) (boxX W s lo + (i : Int)) (boxY W s lo + (n : Int)) 2) _ (fun i hi' => ?_)
        rw [bDirs_two, if_neg (by rw [hasP_no (by omega)]; simp), if_pos (hasP_mk ⟨⟨by omega, by omega⟩, by omega, by omega⟩), List.nil_append]
        simp only [List.cons.injEq, Prod.mk.injEq, and_true, true_and]
        omega
      · intro j hj
        unfold bRow
        refine flat_nil _ (fun i hi' => ?_)
        rw [bDirs_two, if_neg (by rw [hasP_no (by omega)]; simp), if_neg (by rw [hasP_no (by omega)]; simp), List.append_nil]
  · rw [if_neg (fun h => hP ((near_pair hr h0 hlt hid).1 h))]
    refine flat_nil _ (fun j hj => flat_nil _ (fun i hi' => ?_))
    have hc := in_box hr h0 (by omega) (x := boxX W s lo + (i : Int)) (y := boxY W s lo + (j : Int)) ⟨by omega, by omega⟩ ⟨by omega, by omega⟩
    have no : ∀ q : Cell, Left (boxX W s lo + (i : Int), boxY W s lo + (j : Int)) q ∨ Above (boxX W s lo + (i : Int), boxY W s lo + (j : Int)) q → hasP q.1 q.2 (boxP W H s hi) = false := by
      intro q hq
      cases hh : hasP q.1 q.2 (boxP W H s hi)
      · rfl
      · have hb := hasP_of hh
        have hq' := in_box hr (show 0 ≤ hi by omega) hid hb.1 hb.2
        have := (border_has (p := (boxX W s lo + (i : Int), boxY W s lo + (j : Int))) hr hc.1 hq'.1 hq (by rw [hc.2, hq'.2]; omega)).1
        rw [hc.2, hq'.2] at this
        exact absurd this hP
    rw [bDirs_two, if_neg (by rw [no (boxX W s lo + (i : Int) + 1, boxY W s lo + (j : Int)) (.inl ⟨rfl, rfl⟩)]; simp), if_neg (by rw [no (boxX W s lo + (i : Int), boxY W s lo + (j : Int) + 1) (.inr ⟨rfl, rfl⟩)]; simp), List.append_nil]
end Go.Proofs.Ytkioohhjjdlhiaa
