/- The walk of the reference's Border: the pairs of cells beside one another of two clusters. -/
import Derived.Test.YtkioohhjjdlhiaaRefP
set_option linter.all false
set_option linter.unusedVariables false
set_option linter.unusedSimpArgs false
namespace Go.Proofs.Ytkioohhjjdlhiaa
open Go.RowKit

theorem bDirs_next (b : Cell × Cell) (x y : Int) (m : Nat) : bDirs b x y (m + 1) = bDirs b x y m ++ if hasP (stepX x ((m : Int) + 1)) (stepY y ((m : Int) + 1)) b = true then [((x, y), (stepX x ((m : Int) + 1), stepY y ((m : Int) + 1)))] else [] := by
  rw [bDirs_succ]; simp [bItem]
theorem step_near (x y d : Int) : x - 1 ≤ stepX x d ∧ stepX x d ≤ x + 1 ∧ y - 1 ≤ stepY y d ∧ stepY y d ≤ y + 1 := by
  unfold stepX stepY
  (repeat' split) <;> omega

theorem Below.drewN' {q : Nat} {a b : World} (h : Below q a b) (n : Nat) : Below q a (b.drewN n) := ⟨h.os, h.tape, h.output, h.size, fun k hk => h.block k hk⟩
theorem Own.drewN {α : Type} {E : Enc α} {w : World} {base : Nat} {e : TypeId} {v : Value} {l : List α} (h : Own E w base e v l) (n : Nat) : Own E (w.drewN n) base e v l := h

def RetPairs1 (w : World) (L : List (Cell × Cell)) (e : Ending) (w' : World) : Prop := ∃ v, e = .returned v ∧ Ext w w' ∧ Own pairE w' w.heap.size 79 v L

theorem rBorder_same (v : Value) (a : Int) (w : World) : Calls Try.prog 22 #[v, .int .i64 a, .int .i64 a] w (RetPairs1 w []) := by
  go_enter Try.func22, Try.ntmps22
  go_wp2
  go_ret
  exact ⟨_, rfl, (by (with_reducible (repeat' (first | exact Ext.refl _ | assumption | refine Ext.drew ?_ | refine Ext.drewN ?_ _ | refine Ext.alloc ?_ _ | refine Ext.setCell ?_ ?_ _ | refine Ext.trans ?_ (by assumption)))); all_goals (first | (simp; done) | (simp; omega))), Own.lit0 _ _ _ _ _ rfl (Nat.le_refl _)⟩

set_option maxRecDepth 100000 in
set_option maxHeartbeats 4000000 in
theorem rBorder_two (g c : Nat) (l : List (Cell × Cell)) (a b : Nat) (Ax Ay Bx By Bw Bh : Int) (aw ah : Nat) (w : World) (hl : l.length ≤ 1000000) (hr : Reads pairE w (.slice (some ⟨g, 0, none⟩) l.length c) l)
    (hne : a ≠ b) (hA : l[min a b]? = some ((Ax, Ay), ((aw : Int), (ah : Int)))) (hB : l[max a b]? = some ((Bx, By), (Bw, Bh)))
    (hb : 0 ≤ Ax ∧ Ax ≤ 1000 ∧ 0 ≤ Ay ∧ Ay ≤ 1000 ∧ aw ≤ 16 ∧ ah ≤ 16 ∧ 0 ≤ Bx ∧ 0 ≤ By) :
    Calls Try.prog 22 #[.slice (some ⟨g, 0, none⟩) l.length c, .int .i64 (a : Int), .int .i64 (b : Int)] w (RetPairs1 w (bAll ((Bx, By), (Bw, Bh)) Ax Ay aw ah)) := by
  have ha1 := (List.getElem?_eq_some_iff.1 hA).1
  have hb1 := (List.getElem?_eq_some_iff.1 hB).1
  obtain ⟨c1, c2, c3, c4⟩ := hr.pair_at hA
  obtain ⟨e1, e2, e3, e4⟩ := hr.pair_at hB
  have zg := hr.pairs.1
  have HNE := hide hne
  obtain ⟨lo, hlo⟩ : ∃ lo : Nat, lo = min a b := ⟨_, rfl⟩
  obtain ⟨hi, hhi⟩ : ∃ hi : Nat, hi = max a b := ⟨_, rfl⟩
  rw [← hlo] at ha1 c1 c2 c3 c4
  rw [← hhi] at hb1 e1 e2 e3 e4
  simp only at c1 c2 c3 c4 e1 e2 e3 e4
  have HLO := hide hlo
  have HHI := hide hhi
  have hneB : ((a : Int) == (b : Int)) = false := by simp; omega
  have hab : a < 1000000 := by omega
  have hbb : b < 1000000 := by omega
  clear hne hA hB hr hlo hhi
  obtain ⟨w0, hw0⟩ : ∃ w0, w0 = w.alloc (.cells #[] 79) := ⟨_, rfl⟩
  have hx0 : Ext w w0 := by rw [hw0]; exact (by (with_reducible (repeat' (first | exact Ext.refl _ | assumption | refine Ext.drew ?_ | refine Ext.drewN ?_ _ | refine Ext.alloc ?_ _ | refine Ext.setCell ?_ ?_ _ | refine Ext.trans ?_ (by assumption)))); all_goals (first | (simp; done) | (simp; omega)))
  have O0 := hide (show Own pairE w0 w.heap.size 79 (.slice (some ⟨w.heap.size, 0, none⟩) 0 0) [] by rw [hw0]; exact Own.lit0 _ _ _ _ _ rfl (Nat.le_refl _))
  have HW0 := hide hw0
  clear hw0
  go_enter Try.func22, Try.ntmps22
  go_upto_if 20 with (fail)
  rw [← HW0.out]
  go_cut [1, 2] (fun s1 s2 wx => s1 = .int .i64 (lo : Int) ∧ s2 = .int .i64 (hi : Int) ∧ w0 = wx)
  case first =>
    rcases Nat.lt_or_gt_of_ne HNE.out with hlt | hlt
    all_goals
      go_wp2
      go_meet
      exact ⟨by have := HLO.out; congr 1; omega, by have := HHI.out; congr 1; omega, rfl⟩
  case rest =>
    obtain ⟨rfl, rfl, rfl⟩ := hcut
    have hz0 := hx0.size
    have HE := hide (show _ ∧ _ ∧ _ ∧ _ from ⟨e1, e2, e3, e4⟩)
    have HC := hide (show _ ∧ _ ∧ _ ∧ _ from ⟨c1, c2, c3, c4⟩)
    have d2 := (hx0.cell (p := ⟨g, lo * 4 + 1, none⟩) zg).trans c2
    clear c1 c2 c3 c4 e1 e2 e3 e4
    have g0 : (0 : Int) ≤ (lo : Int) := by omega
    have g1 : (lo : Int) < (l.length : Int) := by omega
    have g2 : (0 : Int) ≤ (hi : Int) := by omega
    have g3 : (hi : Int) < (l.length : Int) := by omega
    have hbase : w.heap.size < w0.heap.size ∨ w.heap.size ≤ w0.heap.size := .inr hz0
    go_wp2
    go_loopw [7, 8] (fun out y wr => ∃ j : Nat, j ≤ ah ∧ y = .int .i64 (Ay + (j : Int)) ∧ Own pairE wr w.heap.size 79 out (bAll ((Bx, By), (Bw, Bh)) Ax Ay aw j) ∧ Below w.heap.size w0 wr) (fun _ y _ => ah - (intOf y - Ay).toNat)
    case atStart => exact ⟨0, Nat.zero_le _, by simp, O0.out, Below.refl _ _⟩
    case round =>
      obtain ⟨j, hj, rfl, hown, hbel⟩ := hrel
      have HO := hide hown
      clear hown d2
      have hz := hbel.size
      have hxr : Ext w wr := hx0.of_below hbel (Nat.le_refl _)
      obtain ⟨c1, c2, c3, c4⟩ := HC.out
      have d1 := (hxr.cell (p := ⟨g, lo * 4, none⟩) zg).trans c1
      have d2 := (hxr.cell (p := ⟨g, lo * 4 + 1, none⟩) zg).trans c2
      have d3 := (hxr.cell (p := ⟨g, lo * 4 + 2, none⟩) zg).trans c3
      have d4 := (hxr.cell (p := ⟨g, lo * 4 + 3, none⟩) zg).trans c4
      clear c1 c2 c3 c4
      have zr : g < wr.heap.size := by omega
      by_cases hlt : j < ah
      · have k1 : Ay + (j : Int) < Ay + (ah : Int) := by omega
        go_wp2
        go_quiet (fail)
        go_wp2
        obtain ⟨wo, hwo⟩ : ∃ wo, wo = wr.drewN nq := ⟨_, rfl⟩
        rw [← hwo]
        have bo : Below w.heap.size w0 wo := by rw [hwo]; exact Below.drewN' hbel _
        have OO := hide (show Own pairE wo w.heap.size 79 _ _ by rw [hwo]; exact HO.out.drewN _)
        have lj := bAll_len ((Bx, By), (Bw, Bh)) Ax Ay aw j
        have lj' : 2 * aw * j ≤ 2 * 16 * 16 := Nat.mul_le_mul (by omega) (by omega)
        have hzo := bo.size
        have HJ := hide (bAll_succ ((Bx, By), (Bw, Bh)) Ax Ay aw j)
        obtain ⟨y, hy⟩ : ∃ y : Int, y = Ay + (j : Int) := ⟨_, rfl⟩
        rw [← hy] at k1 ⊢
        have yb : 0 ≤ y ∧ y ≤ 2000 := by omega
        have HY := hide hy
        clear hy d1 d2 d3 d4 hwo hz hxr zr HO
        generalize hL : bAll ((Bx, By), (Bw, Bh)) Ax Ay aw j = L at *
        clear hL
        go_loopw [7, 9] (fun out x wr => ∃ i : Nat, i ≤ aw ∧ x = .int .i64 (Ax + (i : Int)) ∧ Own pairE wr w.heap.size 79 out (L ++ bRow ((Bx, By), (Bw, Bh)) Ax y i) ∧ Below w.heap.size wo wr) (fun _ x _ => aw - (intOf x - Ax).toNat)
        case atStart => exact ⟨0, Nat.zero_le _, by simp, by simpa [bRow] using OO.out, Below.refl _ _⟩
        case round =>
          obtain ⟨i, hi', rfl, hown, hbel⟩ := hrel
          have HO := hide hown
          clear hown
          have hz := hbel.size
          have hxr : Ext w wr := hx0.of_below (bo.trans hbel) (Nat.le_refl _)
          obtain ⟨c1, c2, c3, c4⟩ := HC.out
          have d1 := (hxr.cell (p := ⟨g, lo * 4, none⟩) zg).trans c1
          have d3 := (hxr.cell (p := ⟨g, lo * 4 + 2, none⟩) zg).trans c3
          clear c1 c2 c3 c4
          by_cases hlt : i < aw
          · have k2 : Ax + (i : Int) < Ax + (aw : Int) := by omega
            go_wp2
            go_quiet (fail)
            go_wp2
            obtain ⟨wp, hwp⟩ : ∃ wp, wp = wr.drewN nq := ⟨_, rfl⟩
            rw [← hwp]
            have bp : Below w.heap.size wo wp := by rw [hwp]; exact Below.drewN' hbel _
            have OP := hide (show Own pairE wp w.heap.size 79 _ _ by rw [hwp]; exact HO.out.drewN _)
            have li := bRow_len ((Bx, By), (Bw, Bh)) Ax y i
            have hzp := bp.size
            have HI := hide (bRow_succ ((Bx, By), (Bw, Bh)) Ax y i)
            obtain ⟨x, hx⟩ : ∃ x : Int, x = Ax + (i : Int) := ⟨_, rfl⟩
            rw [← hx] at k2 ⊢
            have xb : 0 ≤ x ∧ x ≤ 2000 := by omega
            have HX := hide hx
            clear hx d1 d3 hwp hz hxr HO
            obtain ⟨M, hM⟩ : ∃ M, M = L ++ bRow ((Bx, By), (Bw, Bh)) Ax y i := ⟨_, rfl⟩
            have lM : M.length ≤ 1000 := by rw [hM, List.length_append]; omega
            rw [← hM] at OP
            have HM := hide hM
            clear hM
            go_loopw [7, 10] (fun out d wr => ∃ m : Nat, m ≤ 2 ∧ d = .int .i64 ((m : Int) + 1) ∧ Own pairE wr w.heap.size 79 out (M ++ bDirs ((Bx, By), (Bw, Bh)) x y m) ∧ Below w.heap.size wp wr) (fun _ d _ => 3 - (intOf d).toNat)
            case atStart => exact ⟨0, Nat.zero_le _, by simp, by simpa [bDirs] using OP.out, Below.refl _ _⟩
            case round =>
              obtain ⟨m, hm, rfl, hown, hbel'⟩ := hrel
              have HO := hide hown
              clear hown
              have hz := hbel'.size
              have hxr : Ext w wr := hx0.of_below ((bo.trans bp).trans hbel') (Nat.le_refl _)
              have lm := bDirs_len ((Bx, By), (Bw, Bh)) x y m
              by_cases hlt' : m < 2
              · have sn := step_near x y ((m : Int) + 1)
                have hstep := fun w => rStep_any x y ((m : Int) + 1) w (by omega) (by omega)
                have HD := bDirs_next ((Bx, By), (Bw, Bh)) x y m
                generalize hnx : stepX x ((m : Int) + 1) = nx at *
                generalize hny : stepY y ((m : Int) + 1) = ny at *
                clear hnx hny
                have HST := hide hstep
                clear hstep
                obtain ⟨e1, e2, e3, e4⟩ := HE.out
                have f1 := (hxr.cell (p := ⟨g, hi * 4, none⟩) zg).trans e1
                have f2 := (hxr.cell (p := ⟨g, hi * 4 + 1, none⟩) zg).trans e2
                have f3 := (hxr.cell (p := ⟨g, hi * 4 + 2, none⟩) zg).trans e3
                have f4 := (hxr.cell (p := ⟨g, hi * 4 + 3, none⟩) zg).trans e4
                clear e1 e2 e3 e4
                have zr : g < wr.heap.size := by omega
                go_wp2_with (go_at_call 43; refine (HST.out _).mono ?_; rintro e w1 ⟨rfl, hb1⟩; obtain ⟨hc1, hf1⟩ := hb1.cells; have hz1 := hb1.size; (repeat (first | rw [World.size_alloc] at hz1 | rw [World.size_drew] at hz1)); have z1_0 : g < w1.heap.size := (by omega); have z1_1 : wr.heap.size < w1.heap.size := (by omega))
                obtain ⟨w2, hw2⟩ : ∃ w2, w2 = w1.alloc (.cells #[.int .i64 nx, .int .i64 ny] 52) := ⟨_, rfl⟩
                have hx2 : Ext w1 w2 := by rw [hw2]; exact (by (with_reducible (repeat' (first | exact Ext.refl _ | assumption | refine Ext.drew ?_ | refine Ext.drewN ?_ _ | refine Ext.alloc ?_ _ | refine Ext.setCell ?_ ?_ _ | refine Ext.trans ?_ (by assumption)))); all_goals (first | (simp; done) | (simp; omega)))
                have hx1 : Ext wr w1 := (by (with_reducible (repeat' (first | exact Ext.refl _ | assumption | refine Ext.drew ?_ | refine Ext.drewN ?_ _ | refine Ext.alloc ?_ _ | refine Ext.setCell ?_ ?_ _ | refine Ext.trans ?_ (by assumption)))); all_goals (first | (simp; done) | (simp; omega)))
                have hx12 : Ext wr w2 := hx1.trans hx2
                have z1 : wr.heap.size < w1.heap.size := by have := hb1.size; simp at this; omega
                have z2 : w1.heap.size < w2.heap.size := by rw [hw2]; simp
                have p0 : w2.cell? ⟨w1.heap.size, 0, none⟩ = some (.int .i64 nx) := by rw [hw2]; simp [go_sem]
                have p1 : w2.cell? ⟨w1.heap.size, 1, none⟩ = some (.int .i64 ny) := by rw [hw2]; simp [go_sem]
                have q0 : w2.cell? ⟨wr.heap.size, 0, none⟩ = some (.int .i64 x) := by rw [hx2.cell (p := ⟨wr.heap.size, 0, none⟩) z1, hb1.cell (p := ⟨wr.heap.size, 0, none⟩) (by simp)]; simp [go_sem]
                have q1 : w2.cell? ⟨wr.heap.size, 1, none⟩ = some (.int .i64 y) := by rw [hx2.cell (p := ⟨wr.heap.size, 1, none⟩) z1, hb1.cell (p := ⟨wr.heap.size, 1, none⟩) (by simp)]; simp [go_sem]
                have g1' := (hx12.cell (p := ⟨g, hi * 4, none⟩) zr).trans f1
                have g2' := (hx12.cell (p := ⟨g, hi * 4 + 1, none⟩) zr).trans f2
                have g3' := (hx12.cell (p := ⟨g, hi * 4 + 2, none⟩) zr).trans f3
                have g4' := (hx12.cell (p := ⟨g, hi * 4 + 3, none⟩) zr).trans f4
                rw [← hw2]
                have HX12 := hide hx12
                have zr2 : g < w2.heap.size := by omega
                have zr3 : wr.heap.size < w2.heap.size := by omega
                clear hw2 hb1 hc1 hf1 hz1 f1 f2 f3 f4 hx1 hx2 hx12
                have HDD := hide HD
                clear HD
                cases hh : hasB Bx By Bw Bh nx ny
                all_goals
                  go_region_held3 (fun W => (∀ b o, b < w2.heap.size → W.cell? ⟨b, o, none⟩ = w2.cell? ⟨b, o, none⟩) ∧ Ext w2 W) (first | with_reducible exact pr_start _ | exact pr_of (by (with_reducible (repeat' (first | exact Ext.refl _ | assumption | refine Ext.drew ?_ | refine Ext.drewN ?_ _ | refine Ext.alloc ?_ _ | refine Ext.setCell ?_ ?_ _ | refine Ext.trans ?_ (by assumption)))); all_goals (first | (simp; done) | (simp; omega))))
                    (first | (go_at_call 44; refine (rHas_any Bx By Bw Bh nx ny _ (by omega) (by omega) (by unfold InI; omega) (by unfold InI; omega)).mono ?_; rintro e w3 ⟨rfl, hb3⟩))
                · rename_i hS
                  have hx3 : Ext w2 w3 := hS.2
                  have O3 := hide ((HO.out.ext HX12.out).ext hx3)
                  have B3 := hide ((hbel'.trans (Below.mono HX12.out (by omega))).trans (Below.mono hx3 (by omega)) : Below w.heap.size wp w3)
                  clear hS
                  have HD := HDD.out
                  rw [if_neg (by unfold hasP; simp only; rw [hh]; simp), List.append_nil] at HD
                  have HD := hide HD
                  clear HDD
                  go_wp2
                  go_roundw
                  case rel => exact ⟨m + 1, by omega, by go_num, by rw [HD.out]; exact O3.out, B3.out⟩
                  case measure => simp [intOf]; omega
                · rename_i hS
                  have hx3 : Ext w2 w3 := hS.2
                  have r0 := (hx3.cell (p := ⟨w1.heap.size, 0, none⟩) z2).trans p0
                  have r1 := (hx3.cell (p := ⟨w1.heap.size, 1, none⟩) z2).trans p1
                  have r2 := (hx3.cell (p := ⟨wr.heap.size, 0, none⟩) zr3).trans q0
                  have r3 := (hx3.cell (p := ⟨wr.heap.size, 1, none⟩) zr3).trans q1
                  have hz3 := hx3.size
                  have O3 := hide ((HO.out.ext HX12.out).ext hx3)
                  have B3 := hide ((hbel'.trans (Below.mono HX12.out (by omega))).trans (Below.mono hx3 (by omega)) : Below w.heap.size wp w3)
                  have lT : (M ++ bDirs ((Bx, By), (Bw, Bh)) x y m).length ≤ 1002 := by rw [List.length_append]; omega
                  have HT := hide (rfl : M ++ bDirs ((Bx, By), (Bw, Bh)) x y m = M ++ bDirs ((Bx, By), (Bw, Bh)) x y m)
                  clear hS hb3 p0 p1 q0 q1 g1' g2' g3' g4' HO
                  have HD := HDD.out
                  clear HDD
                  rw [if_pos (show hasP nx ny ((Bx, By), (Bw, Bh)) = true from hh)] at HD
                  have HD := hide HD
                  clear HT
                  obtain ⟨T, hT⟩ : ∃ T, T = M ++ bDirs ((Bx, By), (Bw, Bh)) x y m := ⟨_, rfl⟩
                  rw [← hT] at O3 lT
                  have HT := hide hT
                  clear hT
                  go_wp2_with (at_builtin; refine wpList_app pairE T_pairs rfl _ _ rfl w.heap.size _ _ T rfl O3.out ((x, y), (nx, ny)) _ _ rfl _ rfl rfl (by omega) (by omega) (by omega) ?_; intro g9 c9 w9 hown9 hb9; have HO9 := hide hown9; clear hown9)
                  go_roundw
                  case rel => exact ⟨m + 1, by omega, by go_num, by rw [HD.out, ← List.append_assoc, ← HT.out]; exact HO9.out, B3.out.trans hb9⟩
                  case measure => simp [intOf]; omega
              · obtain rfl : m = 2 := by omega
                go_wp2
                go_roundw
                case rel => exact ⟨i + 1, by omega, by have := HX.out; congr 1; omega, by rw [HI.out, ← List.append_assoc, ← HM.out, ← HX.out]; exact HO.out, bp.trans hbel'⟩
                case measure => have := HX.out; simp [intOf]; omega
          · obtain rfl : i = aw := by omega
            go_wp2
            go_quiet (fail)
            go_wp2
            go_roundw
            case rel => exact ⟨j + 1, by omega, by have := HY.out; congr 1; omega, by rw [HJ.out, ← HY.out]; exact HO.out.drewN _, Below.drewN' (bo.trans hbel) _⟩
            case measure => have := HY.out; simp [intOf]; omega
      · obtain rfl : j = ah := by omega
        go_wp2
        go_quiet (fail)
        go_wp2
        go_ret
        exact ⟨_, rfl, hxr.drewN _, HO.out⟩
end Go.Proofs.Ytkioohhjjdlhiaa
