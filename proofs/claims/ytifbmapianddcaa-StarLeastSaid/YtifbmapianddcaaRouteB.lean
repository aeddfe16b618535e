/- Walk of steps, of layer 9: a path's cells, each with the one ahead of it. -/
import Derived.Test.YtifbmapianddcaaRouteA
import Derived.Test.YtifbmapianddcaaRowC
import Derived.Stop.RegionWithIn
set_option linter.all false
set_option linter.unusedVariables false
set_option linter.unusedSimpArgs false
namespace Go.Proofs.Ytifbmapianddcaa
open Go.RowKit
attribute [local go_sem] Oper.semAt_some

/-- A path's cells, each with the one ahead of it. -/
def stepsL (p : List Cell) : List (Cell × Cell) := (List.range p.length).map fun i => (p.getD (i - 1) (0, 0), p.getD i (0, 0))
theorem stepsL_len (p : List Cell) : (stepsL p).length = p.length := by simp [stepsL]
theorem stepsL_take (p : List Cell) {k : Nat} (hk : k < p.length) : (stepsL p).take (k + 1) = (stepsL p).take k ++ [(p.getD (k - 1) (0, 0), p.getD k (0, 0))] := by
  have hl : k < (stepsL p).length := by rw [stepsL_len]; exact hk
  rw [List.take_add_one, List.getElem?_eq_getElem hl]
  simp [stepsL]
def ccV (q : Cell × Cell) : Array Value := #[.agg #[.int .i64 q.1.1, .int .i64 q.1.2], .agg #[.int .i64 q.2.1, .int .i64 q.2.2]]

theorem rtSteps_any (a : Option Addr) (n c : Nat) (w : World) : Calls Try.prog 72 #[.slice a n c] w fun e w' => e = .returned (.func (.func 122) #[] #[.pointer (some ⟨w.heap.size, 0, none⟩)]) ∧ w' = w.alloc (.cells #[.slice a n c] 37) := by
  go_enter Try.func72, Try.ntmps72
  go_wp2
  go_ret
  exact ⟨rfl, rfl⟩

set_option maxHeartbeats 2000000 in
set_option maxRecDepth 100000 in
theorem rtSteps1_iter {w : World} {p : List Cell} (hp : p.length ≤ 1000000) {bp b off cc : Nat} {R : Nat → Prop} (B : Blk w bp 37 #[.slice (some ⟨b, off, none⟩) p.length cc]) (Rp : R bp) (Rb : R b) (hr : RowC w (some ⟨b, off, none⟩) p) (hR : ∀ k, R k → k < w.heap.size) :
    IterX Try.prog 122 #[.pointer (some ⟨bp, 0, none⟩)] ccV (stepsL p) R w := by
  intro lp J W0 hx0 hA hE hS hY hJ0
  have HE := hide hE
  have HY := hide hY
  have HJ0 := hide hJ0
  have B0 := hide (B.ext hx0)
  have HC := hide (hr.ext hx0)
  have HRS := hide (fun k hk => Nat.lt_of_lt_of_le (hR k hk) hx0.size : ∀ k, R k → k < W0.heap.size)
  have HTK := hide (fun k (hk : k < p.length) => stepsL_take p hk)
  have HSL := hide (stepsL_len p)
  obtain ⟨m, hm⟩ : ∃ z, p.length = z := ⟨_, rfl⟩
  have HMM := hide hm
  rw [hm] at B0 HTK HSL hp
  clear hA hE hS hY hJ0 B hR hx0 hr hm
  show Calls Try.prog 122 #[.func (.yield lp) #[] #[], .pointer (some ⟨bp, 0, none⟩)] W0 _
  have b0 := B0.out.at 0 rfl
  have bz := B0.out.lt
  go_enter Try.func122, Try.ntmps122
  go_wp2
  clear b0 bz
  go_loopw [3, 7] (fun s3 iv wr => ∃ (k : Nat) (T : Nat → Prop), k ≤ m ∧ iv = .int .i64 (k : Int) ∧ J T ((stepsL p).take k) wr ∧ Touch (fun j => ¬ R j) W0 wr) (fun _ iv _ => m - (intOf iv).toNat)
  case atStart => exact ⟨0, fun _ => False, by omega, rfl, HJ0.out, Touch.refl _ _⟩
  case round =>
    obtain ⟨k, T, hk, rfl, hJ, ht⟩ := hrel
    have J1 := hide hJ
    have T1 := hide ht
    have B1 := hide (B0.out.touch ht (fun h => h Rp))
    have hcr : ∀ (i : Nat) (q : Cell), p.getD i (0, 0) = q → i < m → wr.cell? ⟨b, off + i * 2, none⟩ = some (.int .i64 q.1) ∧ wr.cell? ⟨b, off + i * 2 + 1, none⟩ = some (.int .i64 q.2) ∧ b < wr.heap.size := fun i q hq hi => by
      obtain ⟨b', off', e, hb, hc⟩ := HC.out (by rw [HMM.out]; omega)
      injection e with e
      injection e with e1 e2 _
      subst e1 e2
      have hil : i < p.length := by rw [HMM.out]; exact hi
      have hq' : p[i] = q := by rw [← hq]; simp [List.getD_eq_getElem?_getD, hil]
      have := hc i hil
      rw [hq'] at this
      exact ⟨(ht.cell (p := ⟨b, off + i * 2, none⟩) hb (fun h => h Rb)).trans this.1, (ht.cell (p := ⟨b, off + i * 2 + 1, none⟩) hb (fun h => h Rb)).trans this.2, Nat.lt_of_lt_of_le hb ht.size⟩
    have q0 := B1.out.at 0 rfl
    have qz := B1.out.lt
    by_cases hlt : k < m
    · obtain ⟨q, hq⟩ : ∃ z, p.getD k (0, 0) = z := ⟨_, rfl⟩
      obtain ⟨u, hu⟩ : ∃ z, p.getD (k - 1) (0, 0) = z := ⟨_, rfl⟩
      obtain ⟨c0, c1, cz⟩ := hcr k q hq hlt
      obtain ⟨d0, d1, _⟩ := hcr (k - 1) u hu (by omega)
      have hpre : (stepsL p).take k ++ [(u, q)] <+: stepsL p := by rw [← hq, ← hu, ← HTK.out k hlt]; exact List.take_prefix _ _
      have HPRE := hide hpre
      have HNX := hide (show (stepsL p).take (k + 1) = (stepsL p).take k ++ [(u, q)] by rw [← hq, ← hu]; exact HTK.out k hlt)
      have jk : (k : Int) < (m : Int) := by omega
      have huq : k = 0 → u = q := fun h => by subst h; rw [← hu, ← hq]
      clear hpre hcr hJ ht hq hu
      obtain ⟨qx, qy⟩ := q
      obtain ⟨ux, uy⟩ := u
      simp only at c0 c1 d0 d1
      refine (wpIn_wide (n := 4)).1 ?_
      obtain ⟨fn, tmps, assign, body, hyy, hRR⟩ := HY.out T _ _ ((wr.alloc (.cells #[.int .i64 qx, .int .i64 qy] 28)).drew) (HE.out _ _ _ _ J1.out (by (with_reducible (repeat' (first | exact Ext.refl _ | assumption | refine Ext.drew ?_ | refine Ext.drewN ?_ _ | refine Ext.alloc ?_ _ | refine Ext.setCell ?_ ?_ _ | refine Ext.trans ?_ (by assumption)))); all_goals (first | (simp; done) | (simp; omega)))) HPRE.out
      have HRR := hide hRR
      clear hRR
      unfold ccV at hyy
      by_cases hk0 : k = 0
      · subst hk0
        have huq0 := huq rfl
        injection huq0 with hux huy
        subst hux huy
        simp only [Nat.zero_sub, Nat.zero_mul, Nat.add_zero] at c0 c1 d0 d1
        clear d0 d1 huq
        gi_wp2_with fail
        gi_region_with (refine HRR.out.mono ?_; rintro e w3 ⟨rfl, hJ3, ht3⟩; have J3 := hide hJ3; have T3 := hide (T1.out.trans ((Touch.of_ext (show Ext wr _ from (by (with_reducible (repeat' (first | exact Ext.refl _ | assumption | refine Ext.drew ?_ | refine Ext.drewN ?_ _ | refine Ext.alloc ?_ _ | refine Ext.setCell ?_ ?_ _ | refine Ext.trans ?_ (by assumption)))); all_goals (first | (simp; done) | (simp; omega))))).trans (ht3.mono (fun j _ h => h.2)))); clear hJ3 ht3 hyy HRR)
        all_goals
          gi_wp2_with fail
          go_roundw
          case rel => exact ⟨0 + 1, T, hlt, by go_num, by rw [HNX.out]; exact J3.out, T3.out⟩
          case measure => simp [intOf]; omega
      · clear huq
        obtain ⟨k', rfl⟩ : ∃ z, k = z + 1 := ⟨k - 1, by omega⟩
        simp only [Nat.add_sub_cancel] at d0 d1
        have s1 : IntKind.i64.wrap ((k' : Int) + 1 - 1) = (k' : Int) := by rw [Int.add_sub_cancel]; exact IntWalk.i64_in _ (by omega)
        have s3 : IntKind.i64.wrap (k' : Int) = (k' : Int) := IntWalk.i64_in _ (by omega)
        have jk' : (k' : Int) < (m : Int) := by omega
        gi_wp2_with fail
        gi_region_with (refine HRR.out.mono ?_; rintro e w3 ⟨rfl, hJ3, ht3⟩; have J3 := hide hJ3; have T3 := hide (T1.out.trans ((Touch.of_ext (show Ext wr _ from (by (with_reducible (repeat' (first | exact Ext.refl _ | assumption | refine Ext.drew ?_ | refine Ext.drewN ?_ _ | refine Ext.alloc ?_ _ | refine Ext.setCell ?_ ?_ _ | refine Ext.trans ?_ (by assumption)))); all_goals (first | (simp; done) | (simp; omega))))).trans (ht3.mono (fun j _ h => h.2)))); clear hJ3 ht3 hyy HRR)
        all_goals
          gi_wp2_with fail
          go_roundw
          case rel => exact ⟨k' + 1 + 1, T, hlt, by go_num, by rw [HNX.out]; exact J3.out, T3.out⟩
          case measure => simp [intOf]; omega
    · obtain rfl : k = m := by omega
      have J4 : Hid (J T (stepsL p) wr) := hide (by
        have h := J1.out
        rw [List.take_of_length_le (by rw [HSL.out]; exact Nat.le_refl _)] at h
        exact h)
      clear J1 hJ ht hcr
      go_wp2_with fail
      go_end0
      exact ⟨⟨_, rfl⟩, T, J4.out⟩
end Go.Proofs.Ytifbmapianddcaa
