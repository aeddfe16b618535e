/- Walks of geom: way, next, around, apart, Walk. -/
import Derived.Test.YtifbmapianddcaaCellV
import Derived.Test.YtifbmapianddcaaLib
set_option linter.all false
set_option linter.unusedVariables false
set_option linter.unusedSimpArgs false
namespace Go.Proofs.Ytifbmapianddcaa
open Go.RowKit

theorem gWay_any (k : Nat) (hk : k < 4) (w : World) : Calls Try.prog 191 #[.int .i64 (k : Int)] w fun e w' => e = .returned (.agg #[.int .i64 (dirX k), .int .i64 (dirY k)]) ∧ Ext w w' := by
  obtain rfl | rfl | rfl | rfl : k = 0 ∨ k = 1 ∨ k = 2 ∨ k = 3 := by omega
  · go_enter Try.func191, Try.ntmps191
    go_wp2
    exact bodyPost_ret (v := .agg #[.int .i64 0, .int .i64 (-1)]) (by simp [results, Try.results191, go_sem, *]) rfl ⟨rfl, (by (with_reducible (repeat' (first | exact Ext.refl _ | assumption | refine Ext.drew ?_ | refine Ext.drewN ?_ _ | refine Ext.alloc ?_ _ | refine Ext.setCell ?_ ?_ _ | refine Ext.trans ?_ (by assumption)))); all_goals (first | (simp; done) | (simp; omega)))⟩
  · go_enter Try.func191, Try.ntmps191
    go_wp2
    exact bodyPost_ret (v := .agg #[.int .i64 1, .int .i64 0]) (by simp [results, Try.results191, go_sem, *]) rfl ⟨rfl, (by (with_reducible (repeat' (first | exact Ext.refl _ | assumption | refine Ext.drew ?_ | refine Ext.drewN ?_ _ | refine Ext.alloc ?_ _ | refine Ext.setCell ?_ ?_ _ | refine Ext.trans ?_ (by assumption)))); all_goals (first | (simp; done) | (simp; omega)))⟩
  · go_enter Try.func191, Try.ntmps191
    go_wp2
    exact bodyPost_ret (v := .agg #[.int .i64 0, .int .i64 1]) (by simp [results, Try.results191, go_sem, *]) rfl ⟨rfl, (by (with_reducible (repeat' (first | exact Ext.refl _ | assumption | refine Ext.drew ?_ | refine Ext.drewN ?_ _ | refine Ext.alloc ?_ _ | refine Ext.setCell ?_ ?_ _ | refine Ext.trans ?_ (by assumption)))); all_goals (first | (simp; done) | (simp; omega)))⟩
  · go_enter Try.func191, Try.ntmps191
    go_wp2
    exact bodyPost_ret (v := .agg #[.int .i64 (-1), .int .i64 0]) (by simp [results, Try.results191, go_sem, *]) rfl ⟨rfl, (by (with_reducible (repeat' (first | exact Ext.refl _ | assumption | refine Ext.drew ?_ | refine Ext.drewN ?_ _ | refine Ext.alloc ?_ _ | refine Ext.setCell ?_ ?_ _ | refine Ext.trans ?_ (by assumption)))); all_goals (first | (simp; done) | (simp; omega)))⟩

theorem gNext_any (k : Nat) (hk : k < 4) (x y : Int) (hx : -1000000 ≤ x ∧ x ≤ 1000000) (hy : -1000000 ≤ y ∧ y ≤ 1000000) (w : World) : Calls Try.prog 162 #[.agg #[.int .i64 x, .int .i64 y], .int .i64 (k : Int)] w fun e w' => e = .returned (.agg #[.int .i64 (x + dirX k), .int .i64 (y + dirY k)]) ∧ Ext w w' := by
  have H1 := hide (fun w' => gWay_any k hk w')
  have hb := dir_bd k
  generalize dirX k = dx at *
  generalize dirY k = dy at *
  clear hk
  go_enter Try.func162, Try.ntmps162
  go_wp2_with (go_at_call 191; refine (H1.out _).mono ?_; rintro e w1 ⟨rfl, hb1⟩; obtain ⟨hc1, hf1⟩ := hb1.cells; have hz1 := hb1.size; (repeat (first | rw [World.size_alloc] at hz1 | rw [World.size_drew] at hz1)); have z1_0 : w.heap.size < w1.heap.size := (by omega); have z1_1 : w.heap.size + 1 < w1.heap.size := (by omega))
  exact bodyPost_ret (v := .agg #[.int .i64 (x + dx), .int .i64 (y + dy)]) (by simp [results, Try.results162, go_sem, *]) rfl ⟨rfl, (by (with_reducible (repeat' (first | exact Ext.refl _ | assumption | refine Ext.drew ?_ | refine Ext.drewN ?_ _ | refine Ext.alloc ?_ _ | refine Ext.setCell ?_ ?_ _ | refine Ext.trans ?_ (by assumption)))); all_goals (first | (simp; done) | (simp; omega)))⟩

theorem gAround_any (x y : Int) (w : World) : Calls Try.prog 124 #[.agg #[.int .i64 x, .int .i64 y]] w fun e w' => e = .returned (.func (.func 161) #[] #[.pointer (some ⟨w.heap.size, 0, none⟩)]) ∧ w' = w.alloc (.cells #[.int .i64 x, .int .i64 y] 28) := by
  go_enter Try.func124, Try.ntmps124
  go_wp2
  go_ret
  exact ⟨rfl, rfl⟩

/-- The four cells round one. -/
def fourC (x y : Int) : List (Int × Cell) := (List.range 4).map fun k : Nat => ((k : Int), (x + dirX k, y + dirY k))
theorem fourC_len (x y : Int) : (fourC x y).length = 4 := by simp [fourC]
theorem fourC_at (x y : Int) {k : Nat} (hk : k < 4) : (fourC x y)[k]? = some ((k : Int), (x + dirX k, y + dirY k)) := by
  unfold fourC
  rw [List.getElem?_map, List.getElem?_range hk]
  rfl
theorem fourC_take (x y : Int) {k : Nat} (hk : k < 4) : (fourC x y).take (k + 1) = (fourC x y).take k ++ [((k : Int), (x + dirX k, y + dirY k))] := by
  have h := fourC_at x y hk
  have hl : k < (fourC x y).length := by rw [fourC_len]; exact hk
  rw [List.take_add_one, h]
  rfl

def dcV (q : Int × Cell) : Array Value := #[.int .i64 q.1, .agg #[.int .i64 q.2.1, .int .i64 q.2.2]]

theorem gAround1_iter {w : World} {x y : Int} (hx : -1000000 ≤ x ∧ x ≤ 1000000) (hy : -1000000 ≤ y ∧ y ≤ 1000000) {bc : Nat} {R : Nat → Prop} (B : Blk w bc 28 #[.int .i64 x, .int .i64 y]) (Rb : R bc) (hR : ∀ k, R k → k < w.heap.size) :
    IterX Try.prog 161 #[.pointer (some ⟨bc, 0, none⟩)] dcV (fourC x y) R w := by
  intro lp J W0 hx0 hA hE hS hY hJ0
  have HE := hide hE
  have HY := hide hY
  have HJ0 := hide hJ0
  have B0 := hide (B.ext hx0)
  have zbc := B0.out.lt
  clear hA hE hS hY hJ0 B hR hx0
  show Calls Try.prog 161 #[.func (.yield lp) #[] #[], .pointer (some ⟨bc, 0, none⟩)] W0 _
  go_enter Try.func161, Try.ntmps161
  go_wp2
  go_loopw [3] (fun s3 wr => ∃ (k : Nat) (T : Nat → Prop), k ≤ 4 ∧ s3 = .int .i64 (k : Int) ∧ J T ((fourC x y).take k) wr ∧ Touch (fun j => ¬ R j) W0 wr) (fun s3 _ => 4 - (intOf s3).toNat)
  case atStart => exact ⟨0, fun _ => False, by omega, rfl, HJ0.out, Touch.refl _ _⟩
  case round =>
    obtain ⟨k, T, hk, rfl, hJ, ht⟩ := hrel
    have J1 := hide hJ
    have T1 := hide ht
    have B1 := hide (B0.out.touch ht (fun h => h Rb))
    have q0 := B1.out.at 0 rfl; have q1 := B1.out.at 1 rfl; have qz := B1.out.lt
    clear hJ ht
    by_cases hlt : k < 4
    · have HN := hide (fun w' => gNext_any k hlt x y hx hy w')
      have hd : decide ((k : Int) ≤ 3) = true := by simp; omega
      have hpre : (fourC x y).take k ++ [((k : Int), (x + dirX k, y + dirY k))] <+: fourC x y := by rw [← fourC_take x y hlt]; exact List.take_prefix _ _
      have HPRE := hide hpre
      clear hpre
      refine (wpIn_wide (n := 4)).1 ?_
      gi_wp2_with (first
        | (refine ⟨trivial, ?_⟩; gi_at_call 162; refine (callsIn_wide.2 (HN.out _)).mono ?_; rintro e w2 ⟨rfl, hb2⟩; obtain ⟨fn, tmps, assign, body, hyy, hRR⟩ := HY.out T _ _ w2 (HE.out _ _ _ _ J1.out hb2) HPRE.out; have HRR := hide hRR; have HB2 := hide hb2; clear hRR hb2; unfold dcV at hyy)
        | (refine HRR.out.mono ?_; rintro e w3 ⟨rfl, hJ3, ht3⟩; have J3 := hide hJ3; have T3 := hide (T1.out.trans ((Touch.of_ext HB2.out).trans (ht3.mono (fun j _ h => h.2)))); clear hJ3 ht3 hyy HRR))
      go_roundw
      case rel => exact ⟨k + 1, T, by omega, by go_num, by rw [fourC_take x y hlt]; exact J3.out, T3.out⟩
      case measure => simp [intOf]; omega
    · obtain rfl : k = 4 := by omega
      have J4 : Hid (J T (fourC x y) wr) := hide (by
        have h := J1.out
        rw [List.take_of_length_le (by rw [fourC_len]; exact Nat.le_refl _)] at h
        exact h)
      clear J1
      go_wp2_with fail
      go_end0
      exact ⟨⟨_, rfl⟩, T, J4.out⟩
end Go.Proofs.Ytifbmapianddcaa
