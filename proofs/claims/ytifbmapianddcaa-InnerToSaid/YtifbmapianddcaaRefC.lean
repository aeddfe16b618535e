/- The walk of the reference's Boxes: all clusters, row by row. -/
import Derived.Test.YtifbmapianddcaaRefA
import Derived.Test.YtifbmapianddcaaPartE
import Derived.Test.YtifbmapianddcaaPartP
namespace Go.Proofs.Ytifbmapianddcaa
open Go.RowKit

theorem T_boxes : ElemT Try.prog 65 64 (.agg #[.int .i64 0, .int .i64 0, .int .i64 0, .int .i64 0]) 4 32 := ⟨Try.underlying65, by kernel_rfl, rfl, by decide⟩

def rowBoxes (W H s y : Int) (n : Nat) : List (Cell × Cell) := (List.range n).map fun i : Nat => (((i : Int) * s, y), (min s (W - (i : Int) * s), min s (H - y)))
def boxesR (W H s : Int) (n : Nat) : List (Cell × Cell) := (List.range n).flatMap fun j : Nat => rowBoxes W H s ((j : Int) * s) (acr W s).toNat

theorem rowBoxes_succ (W H s y : Int) (n : Nat) : rowBoxes W H s y (n + 1) = rowBoxes W H s y n ++ [(((n : Int) * s, y), (min s (W - (n : Int) * s), min s (H - y)))] := by
  simp [rowBoxes, List.range_succ]
theorem boxesR_succ (W H s : Int) (n : Nat) : boxesR W H s (n + 1) = boxesR W H s n ++ rowBoxes W H s ((n : Int) * s) (acr W s).toNat := by
  simp [boxesR, List.range_succ]
theorem rowBoxes_len (W H s y : Int) (n : Nat) : (rowBoxes W H s y n).length = n := by simp [rowBoxes]
theorem boxesR_len (W H s : Int) (n : Nat) : (boxesR W H s n).length = n * (acr W s).toNat := by
  induction n with
  | zero => simp [boxesR]
  | succ n ih => rw [boxesR_succ, List.length_append, ih, rowBoxes_len, Nat.add_mul]; omega

theorem acr_lt {n s : Int} (hs : 1 ≤ s) (i : Nat) : (i : Int) * s < n ↔ i < (acr n s).toNat := by
  unfold acr
  constructor
  · intro h
    have h2 : (i : Int) + 1 ≤ (n + s - 1) / s := by
      rw [Int.le_ediv_iff_mul_le (by omega), Int.add_mul]
      omega
    omega
  · intro h
    have h2 : (i : Int) + 1 ≤ (n + s - 1) / s := by omega
    rw [Int.le_ediv_iff_mul_le (by omega), Int.add_mul] at h2
    omega

def RetBoxes (w : World) (L : List (Cell × Cell)) (e : Ending) (w' : World) : Prop := ∃ v, e = .returned v ∧ Ext w w' ∧ Own pairE w' w.heap.size 64 v L

set_option maxHeartbeats 1000000 in
theorem rBoxes_any (W H s : Int) (w : World) (hr : rightB W H s = true) :
    Calls Try.prog 28 #[.agg #[.int .i64 W, .int .i64 H], .int .i64 s] w (RetBoxes w (boxesR W H s (acr H s).toNat)) := by
  obtain ⟨h1, h2, h3, h4, h5, h6⟩ := rightB_true.1 hr
  have b1 := acr_bd W s h5 h6 h1 h2
  have b2 := acr_bd H s h5 h6 h3 h4
  obtain ⟨aH, hH⟩ : ∃ n : Nat, n = (acr H s).toNat := ⟨_, rfl⟩
  obtain ⟨aW, hW⟩ : ∃ n : Nat, n = (acr W s).toNat := ⟨_, rfl⟩
  rw [← hH]
  have HH := hide hH
  have HW := hide hW
  have hH' : aH ≤ 256 := by omega
  have hW' : aW ≤ 256 := by omega
  clear hH hW b1 b2 hr
  go_enter Try.func28, Try.ntmps28
  go_wp2
  obtain ⟨w0, hw0⟩ : ∃ w0, w0 = (w.alloc (.cells #[.int .i64 W, .int .i64 H] 23)).alloc (.cells #[] 64) := ⟨_, rfl⟩
  have hx0 : Ext w w0 := by rw [hw0]; exact (by (with_reducible (repeat' (first | exact Ext.refl _ | assumption | refine Ext.drew ?_ | refine Ext.drewN ?_ _ | refine Ext.alloc ?_ _ | refine Ext.setCell ?_ ?_ _ | refine Ext.trans ?_ (by assumption)))); all_goals (first | (simp; done) | (simp; omega)))
  have c0 : w0.cell? ⟨w.heap.size, 0, none⟩ = some (.int .i64 W) := by rw [hw0]; simp [go_sem]
  have c1 : w0.cell? ⟨w.heap.size, 1, none⟩ = some (.int .i64 H) := by rw [hw0]; simp [go_sem]
  have z0 : w.heap.size < w0.heap.size := by rw [hw0]; simp; omega
  have o0 : Own pairE w0 (w.heap.size + 1) 64 (.slice (some ⟨w.heap.size + 1, 0, none⟩) 0 0) [] := by rw [hw0]; exact Own.lit0 _ _ _ _ _ (by simp) (Nat.le_refl _)
  rw [← hw0]
  have O0 := hide o0
  clear hw0 o0
  go_loopw [5, 6] (fun out y wr => ∃ j : Nat, j ≤ aH ∧ y = .int .i64 ((j : Int) * s) ∧ Own pairE wr (w.heap.size + 1) 64 out (boxesR W H s j) ∧ Below (w.heap.size + 1) w0 wr) (fun _ y _ => (H - intOf y).toNat)
  case atStart => exact ⟨0, Nat.zero_le _, by simp, O0.out, Below.refl _ _⟩
  case round =>
    obtain ⟨j, hj, rfl, hown, hbel⟩ := hrel
    have d0 := (hbel.cell (p := ⟨w.heap.size, 0, none⟩) (by simp)).trans c0
    have d1 := (hbel.cell (p := ⟨w.heap.size, 1, none⟩) (by simp)).trans c1
    have hz := hbel.size
    have hjs := acr_lt (n := H) (s := s) (by omega) j
    rw [← HH.out] at hjs
    have jb := mul_bd (a := (j : Int)) (b := s) (A := 256) (B := 16) (by omega) (by omega) (by omega) (by omega)
    have HO := hide hown
    clear hown
    by_cases hlt : j < aH
    · have hyl : (j : Int) * s < H := hjs.2 hlt
      have hjn : ((j + 1 : Nat) : Int) * s = (j : Int) * s + s := by rw [Int.natCast_add, Int.add_mul]; simp
      have HJ := hide hjn
      clear hjs hjn
      obtain ⟨y, hy⟩ : ∃ y : Int, y = (j : Int) * s := ⟨_, rfl⟩
      rw [← hy] at jb hyl ⊢
      have HY := hide hy
      clear hy
      have l1 := boxesR_len W H s j
      rw [← HW.out] at l1
      have l1' : (boxesR W H s j).length ≤ 65536 := by rw [l1]; exact Nat.mul_le_mul (show j ≤ 256 by omega) hW'
      clear l1
      obtain ⟨wo, rfl⟩ : ∃ wo : World, wo = wr := ⟨_, rfl⟩
      go_wp2
      go_loopw [5, 7] (fun out x wi => ∃ i : Nat, i ≤ aW ∧ x = .int .i64 ((i : Int) * s) ∧ Own pairE wi (w.heap.size + 1) 64 out (boxesR W H s j ++ rowBoxes W H s y i) ∧ Below (w.heap.size + 1) wo wi) (fun _ x _ => (W - intOf x).toNat)
      case atStart => exact ⟨0, Nat.zero_le _, by simp, by simpa [rowBoxes] using HO.out, Below.refl _ _⟩
      case round =>
        obtain ⟨i, hi, rfl, hown', hbel'⟩ := hrel
        have e0 := (hbel'.cell (p := ⟨w.heap.size, 0, none⟩) (by simp)).trans d0
        have e1 := (hbel'.cell (p := ⟨w.heap.size, 1, none⟩) (by simp)).trans d1
        have hz' := hbel'.size
        have his := acr_lt (n := W) (s := s) (by omega) i
        rw [← HW.out] at his
        have ib := mul_bd (a := (i : Int)) (b := s) (A := 256) (B := 16) (by omega) (by omega) (by omega) (by omega)
        have HO' := hide hown'
        clear hown'
        have l2 := rowBoxes_len W H s y i
        have l3 : (boxesR W H s j ++ rowBoxes W H s y i).length ≤ 70000 := by rw [List.length_append, l2]; omega
        clear l2
        by_cases hlt' : i < aW
        · have hxl : (i : Int) * s < W := his.2 hlt'
          have hin : ((i + 1 : Nat) : Int) * s = (i : Int) * s + s := by rw [Int.natCast_add, Int.add_mul]; simp
          have HI := hide hin
          clear his hin
          have HS := hide (rowBoxes_succ W H s y i)
          obtain ⟨x, hx⟩ : ∃ x : Int, x = (i : Int) * s := ⟨_, rfl⟩
          rw [← hx] at ib hxl ⊢
          have HX := hide hx
          clear hx
          have zr : w.heap.size < wr.heap.size := by omega
          go_wp2_with (at_builtin; refine wpList_app pairE T_boxes rfl _ _ rfl (w.heap.size + 1) _ _ (boxesR W H s j ++ rowBoxes W H s y i) rfl (HO'.out.alloc _) ((x, y), (min s (W - x), min s (H - y))) _ _ (by simp [pairE]; omega) _ (by simp) rfl (by omega) (by omega) (by simp; omega) ?_; intro g c w9 hown9 hb9; have HO9 := hide hown9; clear hown9)
          all_goals
            go_roundw
            case rel => exact ⟨i + 1, by omega, by rw [HI.out, ← HX.out], by have h9 := HO9.out; rw [List.length_append] at h9; rw [HS.out, ← HX.out, ← List.append_assoc]; exact h9, hbel'.trans (((Below.refl _ _).alloc (by omega) _).trans hb9)⟩
            case measure => simp [intOf]; omega
        · obtain rfl : i = aW := by omega
          have hxg : ¬ (i : Int) * s < W := fun h => hlt' (his.1 h)
          clear his
          obtain ⟨x, hx⟩ : ∃ x : Int, x = (i : Int) * s := ⟨_, rfl⟩
          rw [← hx] at ib hxg ⊢
          clear hx
          go_wp2
          go_roundw
          case rel => exact ⟨j + 1, by omega, by rw [HJ.out, ← HY.out], by rw [boxesR_succ, ← HW.out, ← HY.out]; exact HO'.out, hbel.trans hbel'⟩
          case measure => simp [intOf]; omega
    · obtain rfl : j = aH := by omega
      have hyg : ¬ (j : Int) * s < H := fun h => hlt (hjs.1 h)
      clear hjs
      obtain ⟨y, hy⟩ : ∃ y : Int, y = (j : Int) * s := ⟨_, rfl⟩
      rw [← hy] at jb hyg ⊢
      clear hy
      go_wp2
      go_ret
      exact ⟨_, rfl, hx0.of_below hbel (by omega), HO.out.lower (by omega)⟩
end Go.Proofs.Ytifbmapianddcaa
