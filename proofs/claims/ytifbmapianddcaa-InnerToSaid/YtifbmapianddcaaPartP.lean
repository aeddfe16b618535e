/- Plain facts on clusters' boxes and the pairs along borders. -/
import Derived.Test.YtifbmapianddcaaPartE
namespace Go.Proofs.Ytifbmapianddcaa
open Go.RowKit

theorem acr_mul {n s : Int} (hs : 1 ≤ s) (_hn : 1 ≤ n) : (acr n s - 1) * s < n := by
  unfold acr
  have h := Int.ediv_mul_le (n + s - 1) (show s ≠ 0 by omega)
  rw [Int.sub_mul]; omega
theorem box_bd {W H s id : Int} (hr : rightB W H s = true) (h0 : 0 ≤ id) (hid : id < cnt W H s) :
    0 ≤ boxX W s id ∧ boxX W s id < W ∧ 0 ≤ boxY W s id ∧ boxY W s id < H := by
  obtain ⟨h1, h2, h3, h4, h5, h6⟩ := rightB_true.1 hr
  have b1 := acr_bd W s h5 h6 h1 h2
  have a1 := acr_mul (n := W) (s := s) (by omega) h1
  have a2 := acr_mul (n := H) (s := s) (by omega) h3
  have c1 : 0 ≤ id % acr W s ∧ id % acr W s ≤ acr W s - 1 := ⟨Int.emod_nonneg _ (by omega), by have := Int.emod_lt_of_pos id (show 0 < acr W s by omega); omega⟩
  have c2 : id / acr W s ≤ acr H s - 1 := by
    have : id / acr W s < acr H s := Int.ediv_lt_of_lt_mul (by omega) (by unfold cnt at hid; rw [Int.mul_comm] at hid; exact hid)
    omega
  have c3 : 0 ≤ id / acr W s := Int.ediv_nonneg h0 (by omega)
  have m1 := Int.mul_le_mul_of_nonneg_right c1.2 (show 0 ≤ s by omega)
  have m2 := Int.mul_le_mul_of_nonneg_right c2 (show 0 ≤ s by omega)
  have n1 := Int.mul_nonneg c1.1 (show 0 ≤ s by omega)
  have n2 := Int.mul_nonneg c3 (show 0 ≤ s by omega)
  unfold boxX boxY
  exact ⟨n1, by omega, n2, by omega⟩
theorem box_sz {W H s id : Int} (hr : rightB W H s = true) (h0 : 0 ≤ id) (hid : id < cnt W H s) :
    1 ≤ boxW W s id ∧ boxW W s id ≤ 16 ∧ 1 ≤ boxH W H s id ∧ boxH W H s id ≤ 16 := by
  obtain ⟨h1, h2, h3, h4, h5, h6⟩ := rightB_true.1 hr
  have := box_bd hr h0 hid
  unfold boxW boxH
  omega

theorem sideL_succ (X Y : Int) (n : Nat) : sideL X Y (n + 1) = sideL X Y n ++ [((X - 1, Y + (n : Int)), (X, Y + (n : Int)))] := by
  simp [sideL, List.range_succ]
theorem lowL_succ (X Y : Int) (n : Nat) : lowL X Y (n + 1) = lowL X Y n ++ [((X + (n : Int), Y - 1), (X + (n : Int), Y))] := by
  simp [lowL, List.range_succ]
theorem sideL_len (X Y : Int) (n : Nat) : (sideL X Y n).length = n := by simp [sideL]
theorem lowL_len (X Y : Int) (n : Nat) : (lowL X Y n).length = n := by simp [lowL]
end Go.Proofs.Ytifbmapianddcaa
