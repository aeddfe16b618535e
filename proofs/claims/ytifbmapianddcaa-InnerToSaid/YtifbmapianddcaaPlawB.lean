/- Plain law: the clusters' boxes have as many cells together as the map. -/
import Derived.Test.YtifbmapianddcaaPlawA
namespace Go.Proofs.Ytifbmapianddcaa
open Go.RowKit

def sumN (f : Nat → Int) : Nat → Int
  | 0 => 0
  | n + 1 => sumN f n + f n

theorem sumN_congr {f g : Nat → Int} (n : Nat) (h : ∀ i, i < n → f i = g i) : sumN f n = sumN g n := by
  induction n with
  | zero => rfl
  | succ n ih => rw [sumN, sumN, ih (fun i hi => h i (by omega)), h n (by omega)]

theorem sumN_split (h : Nat → Int) (m n : Nat) : sumN h (m + n) = sumN h m + sumN (fun i => h (m + i)) n := by
  induction n with
  | zero => simp [sumN]
  | succ n ih => rw [← Nat.add_assoc, sumN, ih, sumN]; omega

theorem sumN_mul (f : Nat → Int) (c : Int) (n : Nat) : sumN (fun i => c * f i) n = c * sumN f n := by
  induction n with
  | zero => simp [sumN]
  | succ n ih => rw [sumN, ih, sumN, Int.mul_add]

theorem sumN_rows (f g : Nat → Int) (a n : Nat) (ha : 0 < a) : sumN (fun k => f (k / a) * g (k % a)) (n * a) = sumN f n * sumN g a := by
  induction n with
  | zero => simp [sumN]
  | succ n ih =>
    rw [Nat.add_mul, Nat.one_mul, sumN_split, ih, sumN, Int.add_mul]
    congr 1
    rw [← sumN_mul]
    apply sumN_congr
    intro i hi
    rw [Nat.mul_comm n a, Nat.mul_add_div ha, Nat.div_eq_of_lt hi, Nat.mul_add_mod, Nat.mod_eq_of_lt hi, Nat.add_zero]

/-- Cut into pieces of s, a length is its pieces together. -/
theorem sum_cut {L s : Int} (hs : 1 ≤ s) (hL : 1 ≤ L) (n : Nat) (hn : n ≤ (acr L s).toNat) : sumN (fun i => min s (L - (i : Int) * s)) n = min ((n : Int) * s) L := by
  induction n with
  | zero => simp [sumN]; omega
  | succ n ih =>
    rw [sumN, ih (by omega)]
    have h := (acr_lt (n := L) hs n).2 (by omega)
    have e : ((n + 1 : Nat) : Int) * s = (n : Int) * s + s := by rw [Int.natCast_add, Int.add_mul]; simp
    rw [e]
    omega

theorem sum_all {L s : Int} (hs : 1 ≤ s) (hL : 1 ≤ L) : sumN (fun i => min s (L - (i : Int) * s)) (acr L s).toNat = L := by
  rw [sum_cut hs hL _ (Nat.le_refl _)]
  have h : ¬ (((acr L s).toNat : Int) * s < L) := fun h => Nat.lt_irrefl _ ((acr_lt (n := L) hs _).1 h)
  omega

def area (W H s : Int) (n : Nat) : Int := sumN (fun k => boxW W s (k : Int) * boxH W H s (k : Int)) n

theorem area_all {W H s : Int} (hr : rightB W H s = true) {N : Nat} (hN : cnt W H s = (N : Int)) : area W H s N = W * H := by
  obtain ⟨h1, h2, h3, h4, h5, h6⟩ := rightB_true.1 hr
  have b1 := acr_bd W s h5 h6 h1 h2
  have b2 := acr_bd H s h5 h6 h3 h4
  have s1 := sum_all (L := W) (s := s) (by omega) h1
  have s2 := sum_all (L := H) (s := s) (by omega) h3
  obtain ⟨a, hA⟩ : ∃ a : Nat, acr W s = (a : Int) := ⟨(acr W s).toNat, by omega⟩
  obtain ⟨b, hB⟩ : ∃ b : Nat, acr H s = (b : Int) := ⟨(acr H s).toNat, by omega⟩
  have hab : N = b * a := by
    unfold cnt at hN
    rw [hA, hB, ← Int.natCast_mul] at hN
    rw [Nat.mul_comm]; omega
  rw [hA, Int.toNat_natCast] at s1
  rw [hB, Int.toNat_natCast] at s2
  have e := sumN_rows (fun j => min s (H - (j : Int) * s)) (fun i => min s (W - (i : Int) * s)) a b (by omega)
  rw [s1, s2] at e
  rw [hab, Int.mul_comm W, ← e]
  unfold area
  apply sumN_congr
  intro k _
  unfold boxW boxH boxX boxY
  rw [hA, Int.mul_comm]
  rfl

theorem area_bd {W H s : Int} (hr : rightB W H s = true) (n : Nat) (hn : (n : Int) ≤ cnt W H s) : 0 ≤ area W H s n ∧ area W H s n ≤ 256 * (n : Int) := by
  induction n with
  | zero => simp [area, sumN]
  | succ n ih =>
    have h := ih (by omega)
    have b := box_sz hr (id := (n : Int)) (by omega) (by omega)
    have m := mul_bd (a := boxW W s (n : Int)) (b := boxH W H s (n : Int)) (A := 16) (B := 16) (by omega) (by omega) (by omega) (by omega)
    unfold area at h ⊢
    rw [sumN]
    omega
theorem area_succ (W H s : Int) (n : Nat) : area W H s (n + 1) = area W H s n + boxW W s (n : Int) * boxH W H s (n : Int) := rfl

theorem acr_le {L s : Int} (hs : 2 ≤ s) (hL : 1 ≤ L) : acr L s ≤ L := by
  unfold acr
  apply Int.ediv_le_of_le_mul (by omega)
  have := Int.mul_nonneg (show (0 : Int) ≤ L - 1 by omega) (show (0 : Int) ≤ s - 1 by omega)
  rw [Int.sub_mul, Int.mul_sub] at this
  omega
theorem cnt_small {W H s : Int} (hs : smallB W H s = true) : cnt W H s ≤ 400 := by
  obtain ⟨hr, hm⟩ := smallB_true.1 hs
  obtain ⟨h1, h2, h3, h4, h5, h6⟩ := rightB_true.1 hr
  have b1 := acr_bd W s h5 h6 h1 h2
  have b2 := acr_bd H s h5 h6 h3 h4
  have a1 := acr_le (L := W) h5 h1
  have a2 := acr_le (L := H) h5 h3
  unfold cnt
  have := Int.mul_le_mul a1 a2 (by omega) (by omega)
  omega
theorem fits_box {W H s id : Int} (hr : rightB W H s = true) (h0 : 0 ≤ id) (hid : id < cnt W H s) : fitsR W H (boxX W s id) (boxY W s id) (boxW W s id) (boxH W H s id) = true := by
  have b := box_bd hr h0 hid
  have z := box_sz hr h0 hid
  unfold fitsR
  unfold boxW boxH at *
  simp only [Bool.and_eq_true, decide_eq_true_eq]
  omega
end Go.Proofs.Ytifbmapianddcaa
