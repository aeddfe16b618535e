/- What the laws on borders share. -/
import Derived.Test.YtkioohhjjdlhiaaPlawD
import Derived.Test.YtkioohhjjdlhiaaRefF
import Derived.Test.YtkioohhjjdlhiaaRefC
import Derived.Test.YtkioohhjjdlhiaaPartF
set_option linter.all false
set_option linter.unusedVariables false
set_option linter.unusedSimpArgs false
namespace Go.Proofs.Ytkioohhjjdlhiaa
open Go.RowKit

def wantL (W H s a b : Int) : List (Cell × Cell) := if hasI (besideL W H s (min a b)) (max a b) = true then borderL W H s (min a b) (max a b) else []

theorem boxP_nat {W H s id : Int} (hr : rightB W H s = true) (h0 : 0 ≤ id) (hid : id < cnt W H s) : boxP W H s id = ((boxX W s id, boxY W s id), (((boxW W s id).toNat : Int), ((boxH W H s id).toNat : Int))) := by
  have z := box_sz hr h0 hid
  rw [Int.toNat_of_nonneg (by omega), Int.toNat_of_nonneg (by omega)]; rfl

theorem rBorder_law (g c N : Nat) (W H s : Int) (a b : Nat) (w : World) (hr : rightB W H s = true) (hN : (boxesAll W H s).length = N) (ha : a < N) (hb : b < N) (hR : Reads pairE w (.slice (some ⟨g, 0, none⟩) N c) (boxesAll W H s)) :
    Calls Try.prog 22 #[.slice (some ⟨g, 0, none⟩) N c, .int .i64 (a : Int), .int .i64 (b : Int)] w (RetPairs1 w (wantL W H s (a : Int) (b : Int))) := by
  have b0 := cnt_bd hr
  have hl := boxesAll_len hr
  by_cases he : a = b
  · subst he
    have e : wantL W H s (a : Int) (a : Int) = [] := by
      unfold wantL
      rw [show min (a : Int) (a : Int) = a by omega, show max (a : Int) (a : Int) = a by omega, beside_self hr]; rfl
    rw [e]
    exact rBorder_same _ _ w
  · have l1 : ((min a b : Nat) : Int) < cnt W H s := by omega
    have l2 : ((max a b : Nat) : Int) < cnt W H s := by omega
    have hlo := boxesAll_at hr (min a b) l1
    have hhi := boxesAll_at hr (max a b) l2
    have bl := box_bd hr (id := ((min a b : Nat) : Int)) (by omega) l1
    have zl := box_sz hr (id := ((min a b : Nat) : Int)) (by omega) l1
    have bh := box_bd hr (id := ((max a b : Nat) : Int)) (by omega) l2
    obtain ⟨h1, h2, h3, h4, h5, h6⟩ := rightB_true.1 hr
    rw [boxP_nat hr (by omega) l1] at hlo
    have e : wantL W H s (a : Int) (b : Int) = bAll (boxP W H s ((max a b : Nat) : Int)) (boxX W s ((min a b : Nat) : Int)) (boxY W s ((min a b : Nat) : Int)) (boxW W s ((min a b : Nat) : Int)).toNat (boxH W H s ((min a b : Nat) : Int)).toNat := by
      rw [bAll_border hr (by omega) (by omega) l2]
      unfold wantL
      rw [show ((min a b : Nat) : Int) = min (a : Int) (b : Int) by omega, show ((max a b : Nat) : Int) = max (a : Int) (b : Int) by omega]
    rw [e]
    rw [← hN] at hR ⊢
    exact rBorder_two g c (boxesAll W H s) a b _ _ _ _ _ _ _ _ w (by omega) hR he hlo hhi ⟨by omega, by omega, by omega, by omega, by omega, by omega, by omega, by omega⟩

theorem hasE_out {W H s : Int} {l : List Int} (hr : rightB W H s = true) (h : l.any (bad W H s) = true) : hasE W H s l = 10 := by simp [hasE, hr, h]
theorem bad_out {W H s id : Int} (h : ¬ (0 ≤ id ∧ id < cnt W H s)) : bad W H s id = true := by
  cases hb : bad W H s id
  · exact absurd (bad_false_iff.1 hb) h
  · rfl
theorem Border_range (W H s a b : Int) (w : World) (hr : rightB W H s = true) (h : ¬ (0 ≤ a ∧ a < cnt W H s) ∨ ¬ (0 ≤ b ∧ b < cnt W H s)) :
    Calls Try.prog 30 #[.agg #[.int .i64 W, .int .i64 H, .int .i64 s], .int .i64 a, .int .i64 b] w fun e w' => e = .returned (.tuple #[.slice none 0 0, .int .i64 10]) ∧ Ext w w' := by
  have e := hasE_out (l := [a, b]) hr (by rcases h with h | h <;> simp [bad_out h])
  have h' := Border_err W H s a b w (by rw [e]; rfl)
  rwa [e] at h'

theorem borderL_pos {W H s lo hi : Int} (hr : rightB W H s = true) (h0 : 0 ≤ lo) (h1 : lo < cnt W H s) : 1 ≤ (borderL W H s lo hi).length := by
  have z := box_sz hr h0 h1
  unfold borderL
  split
  · rw [sideL_len]; omega
  · rw [lowL_len]; omega
end Go.Proofs.Ytkioohhjjdlhiaa
