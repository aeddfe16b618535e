/- Plain laws: the boxes laid one by one are the clusters' boxes, and the cluster of a cell is the one that is found. -/
import Derived.Test.YtifbmapianddcaaRefDp
namespace Go.Proofs.Ytifbmapianddcaa
open Go.RowKit

def boxP (W H s id : Int) : Cell × Cell := ((boxX W s id, boxY W s id), (boxW W s id, boxH W H s id))

theorem boxesR_at {W H s : Int} (ha : 1 ≤ acr W s) (n k : Nat) (h : k < n * (acr W s).toNat) : (boxesR W H s n)[k]? = some (boxP W H s k) := by
  induction n with
  | zero => simp at h
  | succ n ih =>
    obtain ⟨a, hA⟩ : ∃ a : Nat, acr W s = (a : Int) := ⟨(acr W s).toNat, by omega⟩
    rw [boxesR_succ]
    rw [hA, Int.toNat_natCast] at h ih ⊢
    by_cases hk : k < n * a
    · rw [List.getElem?_append_left (by rw [boxesR_len, hA, Int.toNat_natCast]; exact hk)]
      exact ih hk
    · have hlen : (boxesR W H s n).length = n * a := by rw [boxesR_len, hA, Int.toNat_natCast]
      rw [List.getElem?_append_right (by omega), hlen]
      have hka : k - n * a < a := by rw [Nat.add_mul] at h; omega
      have hdiv : k / a = n := by
        rw [Nat.div_eq_iff (by omega)]
        constructor
        · rw [Nat.mul_comm] at hk; rw [Nat.mul_comm]; omega
        · rw [Nat.add_mul] at h; omega
      have hmod : k % a = k - n * a := by
        have := Nat.mod_add_div k a
        rw [hdiv, Nat.mul_comm a n] at this
        omega
      have hX : boxX W s k = ((k - n * a : Nat) : Int) * s := by
        unfold boxX; rw [hA, show ((k : Int) % (a : Int)) = ((k % a : Nat) : Int) from rfl, hmod]
      have hY : boxY W s k = (n : Int) * s := by
        unfold boxY; rw [hA, show ((k : Int) / (a : Int)) = ((k / a : Nat) : Int) from rfl, hdiv]
      simp only [rowBoxes, List.getElem?_map, List.getElem?_range hka, Option.map_some, boxP, boxW, boxH, hX, hY]

def boxesAll (W H s : Int) : List (Cell × Cell) := boxesR W H s (acr H s).toNat

theorem boxesAll_len {W H s : Int} (hr : rightB W H s = true) : ((boxesAll W H s).length : Int) = cnt W H s := by
  obtain ⟨h1, h2, h3, h4, h5, h6⟩ := rightB_true.1 hr
  have b1 := acr_bd W s h5 h6 h1 h2
  have b2 := acr_bd H s h5 h6 h3 h4
  unfold boxesAll cnt
  rw [boxesR_len, Int.natCast_mul, Int.mul_comm, Int.toNat_of_nonneg (by omega), Int.toNat_of_nonneg (by omega)]

theorem boxesAll_at {W H s : Int} (hr : rightB W H s = true) (k : Nat) (h : (k : Int) < cnt W H s) : (boxesAll W H s)[k]? = some (boxP W H s k) := by
  obtain ⟨h1, h2, h3, h4, h5, h6⟩ := rightB_true.1 hr
  have b1 := acr_bd W s h5 h6 h1 h2
  have hl := boxesAll_len hr
  unfold boxesAll at hl ⊢
  rw [boxesR_len] at hl
  exact boxesR_at b1.1 _ k (by omega)

theorem boxesAll_get {W H s : Int} (hr : rightB W H s = true) (k : Nat) (h : k < (boxesAll W H s).length) : (boxesAll W H s)[k] = boxP W H s k := by
  have h' := boxesAll_at hr k (by rw [← boxesAll_len hr]; omega)
  rw [List.getElem?_eq_getElem h] at h'
  exact Option.some.inj h'

theorem boxesAll_nonneg {W H s : Int} (hr : rightB W H s = true) : NonNeg (boxesAll W H s) := by
  intro k h
  have h' : (k : Int) < cnt W H s := by rw [← boxesAll_len hr]; omega
  rw [boxesAll_get hr k h]
  have := box_bd hr (by omega) h'
  exact ⟨this.1, this.2.2.1⟩

theorem div_uniq {x s u : Int} (hs : 0 < s) (h1 : u * s ≤ x) (h2 : x < u * s + s) : x / s = u := by
  have a1 : u ≤ x / s := (Int.le_ediv_iff_mul_le hs).2 h1
  have a2 : x / s < u + 1 := Int.ediv_lt_of_lt_mul hs (by rw [Int.add_mul]; omega)
  omega
theorem x_lt_acr {W s x : Int} (hs : 1 ≤ s) (h0 : 0 ≤ x) (hx : x < W) : x / s < acr W s := by
  unfold acr
  have h1 : x / s ≤ (W - 1) / s := Int.ediv_le_ediv (by omega) (by omega)
  have h2 : (W + s - 1) / s = (W - 1) / s + 1 := by
    rw [show W + s - 1 = (W - 1) + s * 1 from by omega, Int.add_mul_ediv_left _ _ (by omega)]
  omega

/-- Which cluster has a cell of the map: just the one. -/
theorem hasP_box {W H s x y : Int} (hr : rightB W H s = true) (hi : inB W H x y = true) {id : Int} (h0 : 0 ≤ id) (hid : id < cnt W H s) : hasP x y (boxP W H s id) = true ↔ id = ofN W s x y := by
  obtain ⟨h1, h2, h3, h4, h5, h6⟩ := rightB_true.1 hr
  obtain ⟨_, _, _, _, i1, i2, i3, i4⟩ := inB_true.1 hi
  have b1 := acr_bd W s h5 h6 h1 h2
  unfold hasP boxP
  rw [hasB_true]
  unfold boxW boxH boxX boxY ofN
  have e1 := Int.emod_add_mul_ediv id (acr W s)
  have m0 : 0 ≤ id % acr W s := Int.emod_nonneg _ (by omega)
  have m1 := Int.emod_lt_of_pos id (show 0 < acr W s by omega)
  have q1 := Int.emod_add_mul_ediv x s
  have q2 := Int.emod_lt_of_pos x (show 0 < s by omega)
  have q3 : 0 ≤ x % s := Int.emod_nonneg _ (by omega)
  have p1 := Int.emod_add_mul_ediv y s
  have p2 := Int.emod_lt_of_pos y (show 0 < s by omega)
  have p3 : 0 ≤ y % s := Int.emod_nonneg _ (by omega)
  simp only
  constructor
  · rintro ⟨g1, g2, g3, g4⟩
    have ex : x / s = id % acr W s := div_uniq (by omega) g1 (by omega)
    have ey : y / s = id / acr W s := div_uniq (by omega) g3 (by omega)
    rw [ex, ey, Int.mul_comm]
    omega
  · intro he
    have a1 := x_lt_acr (W := W) (s := s) (by omega) i1 i2
    have a2 := Int.ediv_nonneg i1 (show 0 ≤ s by omega)
    have hm : id % acr W s = x / s := by
      rw [he, Int.add_comm, Int.add_mul_emod_self_right]
      exact Int.emod_eq_of_lt a2 a1
    have hd : id / acr W s = y / s := by
      rw [he, Int.add_comm, Int.add_mul_ediv_right _ _ (by omega), Int.ediv_eq_zero_of_lt a2 a1]
      omega
    rw [hm, hd]
    rw [Int.mul_comm s] at q1 p1
    omega

theorem hasP_off {W H s x y : Int} (hr : rightB W H s = true) (hi : inB W H x y = false) {id : Int} (h0 : 0 ≤ id) (hid : id < cnt W H s) : hasP x y (boxP W H s id) = false := by
  obtain ⟨h1, h2, h3, h4, h5, h6⟩ := rightB_true.1 hr
  cases hh : hasP x y (boxP W H s id)
  · rfl
  · have bb := box_bd hr h0 hid
    unfold hasP boxP at hh
    rw [hasB_true] at hh
    unfold boxW boxH at hh
    simp only at hh
    have : inB W H x y = true := inB_true.2 ⟨by omega, by omega, by omega, by omega, by omega, by omega, by omega, by omega⟩
    rw [this] at hi
    cases hi

theorem ofN_bd {W H s x y : Int} (hr : rightB W H s = true) (hi : inB W H x y = true) : 0 ≤ ofN W s x y ∧ ofN W s x y < cnt W H s := by
  obtain ⟨h1, h2, h3, h4, h5, h6⟩ := rightB_true.1 hr
  obtain ⟨_, _, _, _, i1, i2, i3, i4⟩ := inB_true.1 hi
  have b1 := acr_bd W s h5 h6 h1 h2
  have a1 := x_lt_acr (W := W) (s := s) (by omega) i1 i2
  have a2 := Int.ediv_nonneg i1 (show 0 ≤ s by omega)
  have c1 := x_lt_acr (W := H) (s := s) (by omega) i3 i4
  have c2 := Int.ediv_nonneg i3 (show 0 ≤ s by omega)
  unfold ofN cnt
  have m1 := Int.mul_nonneg c2 (show 0 ≤ acr W s by omega)
  have m2 : y / s * acr W s ≤ (acr H s - 1) * acr W s := Int.mul_le_mul_of_nonneg_right (by omega) (by omega)
  rw [Int.sub_mul, Int.mul_comm (acr H s)] at m2
  omega

theorem fOf_in {W H s x y : Int} (hr : rightB W H s = true) (hi : inB W H x y = true) : fOf (boxesAll W H s) x y = ofN W s x y := by
  have hb := ofN_bd hr hi
  obtain ⟨k, hk⟩ : ∃ k : Nat, ofN W s x y = k := ⟨(ofN W s x y).toNat, by omega⟩
  have hl := boxesAll_len hr
  have hlt : k < (boxesAll W H s).length := by omega
  rw [hk]
  refine gidx_at hlt (fun j hj => ?_) ?_
  · rw [boxesAll_get hr j (by omega)]
    cases hh : hasP x y (boxP W H s j)
    · rfl
    · have := (hasP_box hr hi (by omega) (by omega)).1 hh
      omega
  · rw [boxesAll_get hr k hlt]
    exact (hasP_box hr hi (by omega) (by omega)).2 hk.symm

theorem fOf_out {W H s x y : Int} (hr : rightB W H s = true) (hi : inB W H x y = false) : fOf (boxesAll W H s) x y = -1 := by
  have hl := boxesAll_len hr
  refine gidx_none (fun j hj => ?_)
  rw [boxesAll_get hr j hj]
  exact hasP_off hr hi (by omega) (by omega)
end Go.Proofs.Ytifbmapianddcaa
