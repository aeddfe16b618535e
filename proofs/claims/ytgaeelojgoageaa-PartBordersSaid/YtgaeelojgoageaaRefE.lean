/- The walk of the reference's Beside: the clusters beside one, by directions. -/
import Derived.Test.YtgaeelojgoageaaRefP
namespace Go.Proofs.Ytgaeelojgoageaa
open Go.RowKit

def RetInts1 (w : World) (L : List Int) (e : Ending) (w' : World) : Prop := ∃ v, e = .returned v ∧ Ext w w' ∧ Own intE w' w.heap.size 3 v L

set_option maxHeartbeats 2000000 in
theorem rBeside_any (g c : Nat) (l : List (Cell × Cell)) (k : Nat) (b : Cell × Cell) (w : World) (hl : l.length ≤ 1000000) (hr : Reads pairE w (.slice (some ⟨g, 0, none⟩) l.length c) l) (hk : l[k]? = some b) (hn : NonNeg l)
    (hb : b.1.1 ≤ 1000 ∧ b.1.2 ≤ 1000 ∧ 1 ≤ b.2.1 ∧ b.2.1 ≤ 1000 ∧ 1 ≤ b.2.2 ∧ b.2.2 ≤ 1000) :
    Calls Try.prog 30 #[.slice (some ⟨g, 0, none⟩) l.length c, .int .i64 (k : Int)] w (RetInts1 w (nbL l b 4)) := by
  have hkl := (List.getElem?_eq_some_iff.1 hk).1
  have hkb : l[k] = b := by rw [List.getElem?_eq_getElem hkl] at hk; exact Option.some.inj hk
  have hnb := hn k hkl
  rw [hkb] at hnb
  obtain ⟨c1, c2, c3, c4⟩ := hr.pair_at hk
  have zg := hr.pairs.1
  have HR := hide hr
  have HN := hide hn
  clear hr hn hkb hk
  obtain ⟨⟨bx, bY⟩, bw, bh⟩ := b
  simp only at c1 c2 c3 c4 hnb hb
  go_enter Try.func30, Try.ntmps30
  go_wp2
  obtain ⟨w0, hw0⟩ : ∃ w0, w0 = w.alloc (.cells #[] 3) := ⟨_, rfl⟩
  have hx0 : Ext w w0 := by rw [hw0]; exact (by (with_reducible (repeat' (first | exact Ext.refl _ | assumption | refine Ext.drew ?_ | refine Ext.drewN ?_ _ | refine Ext.alloc ?_ _ | refine Ext.setCell ?_ ?_ _ | refine Ext.trans ?_ (by assumption)))); all_goals (first | (simp; done) | (simp; omega)))
  have o0 : Own intE w0 w.heap.size 3 (.slice (some ⟨w.heap.size, 0, none⟩) 0 0) [] := by rw [hw0]; exact Own.lit0 _ _ _ _ _ rfl (Nat.le_refl _)
  have O0 := hide o0
  rw [← hw0]
  clear hw0 o0
  go_loopw [5, 6] (fun out d wr => ∃ n : Nat, n ≤ 4 ∧ d = .int .i64 n ∧ Own intE wr w.heap.size 3 out (nbL l ((bx, bY), bw, bh) n) ∧ Below w.heap.size w0 wr) (fun _ d _ => 4 - (intOf d).toNat)
  case atStart => exact ⟨0, Nat.zero_le _, rfl, O0.out, Below.refl _ _⟩
  case round =>
    obtain ⟨n, hn4, rfl, hown, hbel⟩ := hrel
    have HO := hide hown
    clear hown
    have hz := hbel.size
    have hz0 := hx0.size
    have hxr : Ext w wr := hx0.of_below hbel (Nat.le_refl _)
    have d1 := (hxr.cell (p := ⟨g, k * 4, none⟩) zg).trans c1
    have d2 := (hxr.cell (p := ⟨g, k * 4 + 1, none⟩) zg).trans c2
    have d3 := (hxr.cell (p := ⟨g, k * 4 + 2, none⟩) zg).trans c3
    have d4 := (hxr.cell (p := ⟨g, k * 4 + 3, none⟩) zg).trans c4
    have zr : g < wr.heap.size := by have := hxr.size; omega
    have HRr := hide (HR.out.ext hxr)
    by_cases hlt : n < 4
    · obtain rfl | rfl | rfl | rfl : n = 0 ∨ n = 1 ∨ n = 2 ∨ n = 3 := by omega
      all_goals
        go_wp2
        go_region_held3 (fun W => (∀ b o, b < wr.heap.size → W.cell? ⟨b, o, none⟩ = wr.cell? ⟨b, o, none⟩) ∧ Ext wr W) (first | with_reducible exact pr_start _ | exact pr_of (by (with_reducible (repeat' (first | exact Ext.refl _ | assumption | refine Ext.drew ?_ | refine Ext.drewN ?_ _ | refine Ext.alloc ?_ _ | refine Ext.setCell ?_ ?_ _ | refine Ext.trans ?_ (by assumption)))); all_goals (first | (simp; done) | (simp; omega))))
          (fail)
      · go_wp2_with fail
        refine (rStep_any _ _ 0 _ (by omega) (by omega)).mono ?_
        rintro e w1 ⟨rfl, hb1⟩
        have sx : InI (stepX (cornX ((bx, bY), bw, bh) 0) 0) := by simp only [stepX, cornX]; unfold InI; omega
        have sy : InI (stepY (cornY ((bx, bY), bw, bh) 0) 0) := by simp only [stepY, cornY]; unfold InI; omega
        have SX := hide sx
        have SY := hide sy
        clear sx sy
        go_wp2_with fail
        have hx1 : Ext wr w1 := (by (with_reducible (repeat' (first | exact Ext.refl _ | assumption | refine Ext.drew ?_ | refine Ext.drewN ?_ _ | refine Ext.alloc ?_ _ | refine Ext.setCell ?_ ?_ _ | refine Ext.trans ?_ (by assumption)))); all_goals (first | (simp; done) | (simp; omega)))
        refine (rOf_any _ l _ _ _ hl (by omega) (HRr.out.ext hx1) HN.out SX.out SY.out).mono ?_
        rintro e w2 ⟨rfl, hb2⟩
        have hnbe : fOf l (stepX (cornX ((bx, bY), bw, bh) 0) 0) (stepY (cornY ((bx, bY), bw, bh) 0) 0) = nbOf l ((bx, bY), bw, bh) ((0 : Nat) : Int) := rfl
        have hgb := gidx_bd (hasP (stepX (cornX ((bx, bY), bw, bh) 0) 0) (stepY (cornY ((bx, bY), bw, bh) 0) 0)) l
        have hnl := nbL_len l ((bx, bY), bw, bh) 0
        have HSU := hide (nbL_succ l ((bx, bY), bw, bh) 0)
        generalize hM : fOf l (stepX (cornX ((bx, bY), bw, bh) 0) 0) (stepY (cornY ((bx, bY), bw, bh) 0) 0) = M at *
        have HM := hide hnbe
        have hx2 : Ext wr w2 := hx1.trans hb2
        have hz2 := hx2.size
        have HO2 := hide (HO.out.ext hx2)
        clear hnbe hM hgb HO hx1
        by_cases h0 : 0 ≤ M
        · go_wp2_with (at_builtin; refine wpList_app intE T_ints rfl _ _ rfl w.heap.size _ _ (nbL l ((bx, bY), bw, bh) 0) rfl HO2.out M _ _ rfl _ rfl rfl (by omega) (by omega) (by omega) ?_; intro g9 c9 w9 hown9 hb9; have HO9 := hide hown9; clear hown9)
          go_roundw
          case rel => exact ⟨0 + 1, by omega, by go_num, by rw [HSU.out, ← HM.out]; simpa [opt, h0] using HO9.out, hbel.trans ((hx2.below.mono (by omega)).trans hb9)⟩
          case measure => simp [intOf]
        · go_wp2
          go_roundw
          case rel => exact ⟨0 + 1, by omega, by go_num, by rw [HSU.out, ← HM.out, opt_no _ (by omega) (fun L => L)]; exact HO2.out, hbel.trans (hx2.below.mono (by omega))⟩
          case measure => simp [intOf]
      · go_wp2_with fail
        go_region
        go_wp2_with fail
        refine (rStep_any _ _ 1 _ (by omega) (by omega)).mono ?_
        rintro e w1 ⟨rfl, hb1⟩
        have sx : InI (stepX (cornX ((bx, bY), bw, bh) 1) 1) := by simp only [stepX, cornX]; unfold InI; omega
        have sy : InI (stepY (cornY ((bx, bY), bw, bh) 1) 1) := by simp only [stepY, cornY]; unfold InI; omega
        have SX := hide sx
        have SY := hide sy
        clear sx sy
        go_wp2_with fail
        have hx1 : Ext wr w1 := (by (with_reducible (repeat' (first | exact Ext.refl _ | assumption | refine Ext.drew ?_ | refine Ext.drewN ?_ _ | refine Ext.alloc ?_ _ | refine Ext.setCell ?_ ?_ _ | refine Ext.trans ?_ (by assumption)))); all_goals (first | (simp; done) | (simp; omega)))
        refine (rOf_any _ l _ _ _ hl (by omega) (HRr.out.ext hx1) HN.out SX.out SY.out).mono ?_
        rintro e w2 ⟨rfl, hb2⟩
        have hnbe : fOf l (stepX (cornX ((bx, bY), bw, bh) 1) 1) (stepY (cornY ((bx, bY), bw, bh) 1) 1) = nbOf l ((bx, bY), bw, bh) ((1 : Nat) : Int) := rfl
        have hgb := gidx_bd (hasP (stepX (cornX ((bx, bY), bw, bh) 1) 1) (stepY (cornY ((bx, bY), bw, bh) 1) 1)) l
        have hnl := nbL_len l ((bx, bY), bw, bh) 1
        have HSU := hide (nbL_succ l ((bx, bY), bw, bh) 1)
        generalize hM : fOf l (stepX (cornX ((bx, bY), bw, bh) 1) 1) (stepY (cornY ((bx, bY), bw, bh) 1) 1) = M at *
        have HM := hide hnbe
        have hx2 : Ext wr w2 := hx1.trans hb2
        have hz2 := hx2.size
        have HO2 := hide (HO.out.ext hx2)
        clear hnbe hM hgb HO hx1
        by_cases h0 : 0 ≤ M
        · go_wp2_with (at_builtin; refine wpList_app intE T_ints rfl _ _ rfl w.heap.size _ _ (nbL l ((bx, bY), bw, bh) 1) rfl HO2.out M _ _ rfl _ rfl rfl (by omega) (by omega) (by omega) ?_; intro g9 c9 w9 hown9 hb9; have HO9 := hide hown9; clear hown9)
          go_roundw
          case rel => exact ⟨1 + 1, by omega, by go_num, by rw [HSU.out, ← HM.out]; simpa [opt, h0] using HO9.out, hbel.trans ((hx2.below.mono (by omega)).trans hb9)⟩
          case measure => simp [intOf]
        · go_wp2
          go_roundw
          case rel => exact ⟨1 + 1, by omega, by go_num, by rw [HSU.out, ← HM.out, opt_no _ (by omega) (fun L => L)]; exact HO2.out, hbel.trans (hx2.below.mono (by omega))⟩
          case measure => simp [intOf]
      · go_wp2_with fail
        go_region
        go_wp2_with fail
        refine (rStep_any _ _ 2 _ (by omega) (by omega)).mono ?_
        rintro e w1 ⟨rfl, hb1⟩
        have sx : InI (stepX (cornX ((bx, bY), bw, bh) 2) 2) := by simp only [stepX, cornX]; unfold InI; omega
        have sy : InI (stepY (cornY ((bx, bY), bw, bh) 2) 2) := by simp only [stepY, cornY]; unfold InI; omega
        have SX := hide sx
        have SY := hide sy
        clear sx sy
        go_wp2_with fail
        have hx1 : Ext wr w1 := (by (with_reducible (repeat' (first | exact Ext.refl _ | assumption | refine Ext.drew ?_ | refine Ext.drewN ?_ _ | refine Ext.alloc ?_ _ | refine Ext.setCell ?_ ?_ _ | refine Ext.trans ?_ (by assumption)))); all_goals (first | (simp; done) | (simp; omega)))
        refine (rOf_any _ l _ _ _ hl (by omega) (HRr.out.ext hx1) HN.out SX.out SY.out).mono ?_
        rintro e w2 ⟨rfl, hb2⟩
        have hnbe : fOf l (stepX (cornX ((bx, bY), bw, bh) 2) 2) (stepY (cornY ((bx, bY), bw, bh) 2) 2) = nbOf l ((bx, bY), bw, bh) ((2 : Nat) : Int) := rfl
        have hgb := gidx_bd (hasP (stepX (cornX ((bx, bY), bw, bh) 2) 2) (stepY (cornY ((bx, bY), bw, bh) 2) 2)) l
        have hnl := nbL_len l ((bx, bY), bw, bh) 2
        have HSU := hide (nbL_succ l ((bx, bY), bw, bh) 2)
        generalize hM : fOf l (stepX (cornX ((bx, bY), bw, bh) 2) 2) (stepY (cornY ((bx, bY), bw, bh) 2) 2) = M at *
        have HM := hide hnbe
        have hx2 : Ext wr w2 := hx1.trans hb2
        have hz2 := hx2.size
        have HO2 := hide (HO.out.ext hx2)
        clear hnbe hM hgb HO hx1
        by_cases h0 : 0 ≤ M
        · go_wp2_with (at_builtin; refine wpList_app intE T_ints rfl _ _ rfl w.heap.size _ _ (nbL l ((bx, bY), bw, bh) 2) rfl HO2.out M _ _ rfl _ rfl rfl (by omega) (by omega) (by omega) ?_; intro g9 c9 w9 hown9 hb9; have HO9 := hide hown9; clear hown9)
          go_roundw
          case rel => exact ⟨2 + 1, by omega, by go_num, by rw [HSU.out, ← HM.out]; simpa [opt, h0] using HO9.out, hbel.trans ((hx2.below.mono (by omega)).trans hb9)⟩
          case measure => simp [intOf]
        · go_wp2
          go_roundw
          case rel => exact ⟨2 + 1, by omega, by go_num, by rw [HSU.out, ← HM.out, opt_no _ (by omega) (fun L => L)]; exact HO2.out, hbel.trans (hx2.below.mono (by omega))⟩
          case measure => simp [intOf]
      · go_wp2_with fail
        refine (rStep_any _ _ 3 _ (by omega) (by omega)).mono ?_
        rintro e w1 ⟨rfl, hb1⟩
        have sx : InI (stepX (cornX ((bx, bY), bw, bh) 3) 3) := by simp only [stepX, cornX]; unfold InI; omega
        have sy : InI (stepY (cornY ((bx, bY), bw, bh) 3) 3) := by simp only [stepY, cornY]; unfold InI; omega
        have SX := hide sx
        have SY := hide sy
        clear sx sy
        go_wp2_with fail
        have hx1 : Ext wr w1 := (by (with_reducible (repeat' (first | exact Ext.refl _ | assumption | refine Ext.drew ?_ | refine Ext.drewN ?_ _ | refine Ext.alloc ?_ _ | refine Ext.setCell ?_ ?_ _ | refine Ext.trans ?_ (by assumption)))); all_goals (first | (simp; done) | (simp; omega)))
        refine (rOf_any _ l _ _ _ hl (by omega) (HRr.out.ext hx1) HN.out SX.out SY.out).mono ?_
        rintro e w2 ⟨rfl, hb2⟩
        have hnbe : fOf l (stepX (cornX ((bx, bY), bw, bh) 3) 3) (stepY (cornY ((bx, bY), bw, bh) 3) 3) = nbOf l ((bx, bY), bw, bh) ((3 : Nat) : Int) := rfl
        have hgb := gidx_bd (hasP (stepX (cornX ((bx, bY), bw, bh) 3) 3) (stepY (cornY ((bx, bY), bw, bh) 3) 3)) l
        have hnl := nbL_len l ((bx, bY), bw, bh) 3
        have HSU := hide (nbL_succ l ((bx, bY), bw, bh) 3)
        generalize hM : fOf l (stepX (cornX ((bx, bY), bw, bh) 3) 3) (stepY (cornY ((bx, bY), bw, bh) 3) 3) = M at *
        have HM := hide hnbe
        have hx2 : Ext wr w2 := hx1.trans hb2
        have hz2 := hx2.size
        have HO2 := hide (HO.out.ext hx2)
        clear hnbe hM hgb HO hx1
        by_cases h0 : 0 ≤ M
        · go_wp2_with (at_builtin; refine wpList_app intE T_ints rfl _ _ rfl w.heap.size _ _ (nbL l ((bx, bY), bw, bh) 3) rfl HO2.out M _ _ rfl _ rfl rfl (by omega) (by omega) (by omega) ?_; intro g9 c9 w9 hown9 hb9; have HO9 := hide hown9; clear hown9)
          go_roundw
          case rel => exact ⟨3 + 1, by omega, by go_num, by rw [HSU.out, ← HM.out]; simpa [opt, h0] using HO9.out, hbel.trans ((hx2.below.mono (by omega)).trans hb9)⟩
          case measure => simp [intOf]
        · go_wp2
          go_roundw
          case rel => exact ⟨3 + 1, by omega, by go_num, by rw [HSU.out, ← HM.out, opt_no _ (by omega) (fun L => L)]; exact HO2.out, hbel.trans (hx2.below.mono (by omega))⟩
          case measure => simp [intOf]
    · obtain rfl : n = 4 := by omega
      go_wp2
      go_ret
      exact ⟨_, rfl, hxr, HO.out⟩
end Go.Proofs.Ytgaeelojgoageaa
