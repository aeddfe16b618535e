/- What the laws on borders share. -/
import Derived.Test.YtifbmapianddcaaPlawD
import Derived.Test.YtifbmapianddcaaRefF
import Derived.Test.YtifbmapianddcaaRefC
import Derived.Test.YtifbmapianddcaaPartF
set_option linter.all false
set_option linter.unusedVariables false
set_option linter.unusedSimpArgs false
namespace Go.Proofs.Ytifbmapianddcaa
open Go.RowKit

def wantL (W H s a b : Int) : List (Cell × Cell) := if hasI (besideL W H s (min a b)) (max a b) = true then borderL W H s (min a b) (max a b) else []

theorem boxP_nat {W H s id : Int} (hr : rightB W H s = true) (h0 : 0 ≤ id) (hid : id < cnt W H s) : boxP W H s id = ((boxX W s id, boxY W s id), (((boxW W s id).toNat : Int), ((boxH W H s id).toNat : Int))) := by
  have z := box_sz hr h0 hid
  rw [Int.toNat_of_nonneg (by omega), Int.toNat_of_nonneg (by omega)]; rfl

theorem hasE_out {W H s : Int} {l : List Int} (hr : rightB W H s = true) (h : l.any (bad W H s) = true) : hasE W H s l = 10 := by simp [hasE, hr, h]
theorem bad_out {W H s id : Int} (h : ¬ (0 ≤ id ∧ id < cnt W H s)) : bad W H s id = true := by
  cases hb : bad W H s id
  · exact absurd (bad_false_iff.1 hb) h
  · rfl
theorem Border_range (W H s a b : Int) (w : World) (hr : rightB W H s = true) (h : ¬ (0 ≤ a ∧ a < cnt W H s) ∨ ¬ (0 ≤ b ∧ b < cnt W H s)) :
    Calls Try.prog 135 #[.agg #[.int .i64 W, .int .i64 H, .int .i64 s], .int .i64 a, .int .i64 b] w fun e w' => e = .returned (.tuple #[.slice none 0 0, .int .i64 10]) ∧ Ext w w' := by
  have e := hasE_out (l := [a, b]) hr (by rcases h with h | h <;> simp [bad_out h])
  have h' := Border_err W H s a b w (by rw [e]; rfl)
  rwa [e] at h'

theorem borderL_pos {W H s lo hi : Int} (hr : rightB W H s = true) (h0 : 0 ≤ lo) (h1 : lo < cnt W H s) : 1 ≤ (borderL W H s lo hi).length := by
  have z := box_sz hr h0 h1
  unfold borderL
  split
  · rw [sideL_len]; omega
  · rw [lowL_len]; omega
end Go.Proofs.Ytifbmapianddcaa
