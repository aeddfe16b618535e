/- Part of a proof: StarO StarT LawSF. -/
import Derived.Test.YtkonojjillcfiaaStarFindsP01
import Derived.Test.YtkonojjillcfiaaStarBudgetP13
set_option linter.all false
set_option linter.unusedVariables false
set_option linter.unusedSimpArgs false
/- Walk of the reference's Find. -/
namespace Go.Proofs.Ytkonojjillcfiaa
open Go.RowKit

set_option maxRecDepth 100000 in
theorem rFind_wall {w : World} {W H : Int} {a : Option Addr} {l : List Int} (c : Nat) {x y tx ty b : Int} (he : findE W H l.length x y tx ty b = 0) (hr : Row16 w a l) (hu : U16s l) (hz : costI l W (x, y) = 0 ∨ costI l W (tx, ty) = 0) :
    Calls Try.prog 31 #[.agg #[.int .i64 W, .int .i64 H, .slice a l.length c], .agg #[.int .i64 x, .int .i64 y], .agg #[.int .i64 tx, .int .i64 ty], .int .i64 b] w fun e w' => e = .returned (.tuple #[.agg #[.slice none 0 0, .int .u64 0, .int .i64 0], .int .i64 22]) ∧ Ext w w' := by
  obtain ⟨e1, e2, e3, e4⟩ := findE_ok.1 he
  obtain ⟨hm, hl⟩ := checkE_ok.1 e1
  have i1 := inB_true.1 e2
  have i2 := inB_true.1 e3
  have H1 := hide (fun (w' : World) (hx : Ext w w') => rCost_any W H a l c x y w' hm hl (hr.ext hx) hu (by omega) (by omega) (by omega) (by omega))
  have H2 := hide (fun (w' : World) (hx : Ext w w') => rCost_any W H a l c tx ty w' hm hl (hr.ext hx) hu (by omega) (by omega) (by omega) (by omega))
  generalize costI l W (x, y) = c1 at *
  generalize costI l W (tx, ty) = c2 at *
  obtain ⟨n, hn⟩ : ∃ n, l.length = n := ⟨_, rfl⟩
  rw [hn] at H1 H2 ⊢
  clear he hr hu e1 e2 e3 e4 hm hl i1 i2 hn
  by_cases h1 : c1 = 0
  · subst h1
    clear hz
    go_enter Try.func31, Try.ntmps31
    go_wp2_with (go_at_call 26; refine (H1.out _ (by (with_reducible (repeat' (first | exact Ext.refl _ | assumption | refine Ext.drew ?_ | refine Ext.drewN ?_ _ | refine Ext.alloc ?_ _ | refine Ext.setCell ?_ ?_ _ | refine Ext.trans ?_ (by assumption)))); all_goals (first | (simp; done) | (simp; omega)))).mono ?_; rintro e w1 ⟨rfl, hb1⟩; obtain ⟨hc1, hf1⟩ := hb1.cells; have hz1 := hb1.size; (repeat (first | rw [World.size_alloc] at hz1 | rw [World.size_drew] at hz1)); have z1_0 : w.heap.size < w1.heap.size := (by omega); have z1_1 : w.heap.size + 1 < w1.heap.size := (by omega); have z1_2 : w.heap.size + 2 < w1.heap.size := (by omega); have z1_3 : w.heap.size + 3 < w1.heap.size := (by omega))
    exact bodyPost_ret (v := .tuple #[.agg #[.slice none 0 0, .int .u64 0, .int .i64 0], .int .i64 22]) (by simp [results, Try.results31, go_sem, *]) rfl ⟨rfl, (by (with_reducible (repeat' (first | exact Ext.refl _ | assumption | refine Ext.drew ?_ | refine Ext.drewN ?_ _ | refine Ext.alloc ?_ _ | refine Ext.setCell ?_ ?_ _ | refine Ext.trans ?_ (by assumption)))); all_goals (first | (simp; done) | (simp; omega)))⟩
  · have h2 : c2 = 0 := hz.resolve_left h1
    subst h2
    have hq : (c1 == 0) = false := by simpa using h1
    clear hz
    go_enter Try.func31, Try.ntmps31
    go_wp2_with fail
    refine (H1.out _ (by (with_reducible (repeat' (first | exact Ext.refl _ | assumption | refine Ext.drew ?_ | refine Ext.drewN ?_ _ | refine Ext.alloc ?_ _ | refine Ext.setCell ?_ ?_ _ | refine Ext.trans ?_ (by assumption)))); all_goals (first | (simp; done) | (simp; omega)))).mono ?_
    rintro e w1 ⟨rfl, hb1⟩
    obtain ⟨hc1, hf1⟩ := hb1.cells; have hz1 := hb1.size; (repeat (first | rw [World.size_alloc] at hz1 | rw [World.size_drew] at hz1)); have z1_0 : w.heap.size < w1.heap.size := (by omega); have z1_1 : w.heap.size + 1 < w1.heap.size := (by omega); have z1_2 : w.heap.size + 2 < w1.heap.size := (by omega); have z1_3 : w.heap.size + 3 < w1.heap.size := (by omega)
    go_wp2_with fail
    refine (H2.out _ (by (with_reducible (repeat' (first | exact Ext.refl _ | assumption | refine Ext.drew ?_ | refine Ext.drewN ?_ _ | refine Ext.alloc ?_ _ | refine Ext.setCell ?_ ?_ _ | refine Ext.trans ?_ (by assumption)))); all_goals (first | (simp; done) | (simp; omega)))).mono ?_
    rintro e w2 ⟨rfl, hb2⟩
    obtain ⟨hc2, hf2⟩ := hb2.cells; have hz2 := hb2.size; (repeat (first | rw [World.size_alloc] at hz2 | rw [World.size_drew] at hz2)); have z2_0 : w.heap.size < w2.heap.size := (by omega); have z2_1 : w.heap.size + 1 < w2.heap.size := (by omega); have z2_2 : w.heap.size + 2 < w2.heap.size := (by omega); have z2_3 : w.heap.size + 3 < w2.heap.size := (by omega)
    go_wp2_with fail
    exact bodyPost_ret (v := .tuple #[.agg #[.slice none 0 0, .int .u64 0, .int .i64 0], .int .i64 22]) (by simp [results, Try.results31, go_sem, *]) rfl ⟨rfl, (by (with_reducible (repeat' (first | exact Ext.refl _ | assumption | refine Ext.drew ?_ | refine Ext.drewN ?_ _ | refine Ext.alloc ?_ _ | refine Ext.setCell ?_ ?_ _ | refine Ext.trans ?_ (by assumption)))); all_goals (first | (simp; done) | (simp; omega)))⟩

set_option maxRecDepth 100000 in
set_option maxHeartbeats 4000000 in
theorem rFind_open {w : World} {W H : Int} {a : Option Addr} {l : List Int} (c : Nat) {x y tx ty b : Int} (he : findE W H l.length x y tx ty b = 0) (hr : Row16 w a l) (hu : U16s l)
    (ho : (mapNet (landP_of (whole_of he).1 hu)).op (idxN W (x, y)) = true ∧ (mapNet (landP_of (whole_of he).1 hu)).op (idxN W (tx, ty)) = true) :
    Calls Try.prog 31 #[.agg #[.int .i64 W, .int .i64 H, .slice a l.length c], .agg #[.int .i64 x, .int .i64 y], .agg #[.int .i64 tx, .int .i64 ty], .int .i64 b] w fun e w' => Ext w w' ∧
      ∃ (p : List Nat) (cc k er : Int) (v : Value), ARun (mapNet (landP_of (whole_of he).1 hu)) W (fun v => manh (vx W v) (vy W v) (vx W (idxN W (tx, ty))) (vy W (idxN W (tx, ty)))) (idxN W (tx, ty)) b (start0 (idxN W (x, y))) p cc k er ∧ e = .returned (.tuple #[.agg #[v, .int .u64 cc, .int .i64 k], .int .i64 er]) ∧ Reads cellE w' v (p.map (cellV W)) := by
  obtain ⟨e1, e2, e3, e4⟩ := findE_ok.1 he
  obtain ⟨hm, hl⟩ := checkE_ok.1 e1
  have i1 := inB_true.1 e2
  have i2 := inB_true.1 e3
  have HL := hide (landP_of (whole_of he).1 hu)
  have HCO := hide (fun (w' : World) (hr' : Row16 w' a l) (u v : Int) (h : 0 ≤ u ∧ u < W ∧ 0 ≤ v ∧ v < H) => rCost_any W H a l c u v w' hm hl hr' hu h.1 h.2.1 h.2.2.1 h.2.2.2)
  have HIN := hide (fun (w' : World) (u v : Int) => r10In_any W H u v w' hm)
  obtain ⟨ab, aoff, ha, hab, _⟩ := cost_cell hr hl i1.2.2.2.2.1 i1.2.2.2.2.2.1 i1.2.2.2.2.2.2.1 i1.2.2.2.2.2.2.2
  subst ha
  have hsn := HL.out.idx_lt (x := x) (y := y) (by omega)
  have htn := HL.out.idx_lt (x := tx) (y := ty) (by omega)
  have wh := HL.out.wh
  have hc1 : 0 < costI l W (x, y) := by
    have h := ho.1
    have h2 : opV (openB l W 0 0 W H) W l.length (idxN W (x, y)) = true := h
    rw [HL.out.opV_idx (by omega)] at h2
    exact (open_has h2).2
  have hc2 : 0 < costI l W (tx, ty) := by
    have h := ho.2
    have h2 : opV (openB l W 0 0 W H) W l.length (idxN W (tx, ty)) = true := h
    rw [HL.out.opV_idx (by omega)] at h2
    exact (open_has h2).2
  have HC1 := hide (fun (w' : World) (hx : Ext w w') => HCO.out w' (hr.ext hx) x y (by omega))
  have HC2 := hide (fun (w' : World) (hx : Ext w w') => HCO.out w' (hr.ext hx) tx ty (by omega))
  have hvt : vx W (idxN W (tx, ty)) = tx ∧ vy W (idxN W (tx, ty)) = ty := ⟨vx_idx (by omega) (by omega) (by omega), vy_idx (by omega) (by omega) (by omega)⟩
  rw [hvt.1, hvt.2]
  obtain ⟨G, hG⟩ : ∃ G, mapNet HL.out = G := ⟨_, rfl⟩
  have HG := hide hG
  rw [show mapNet (landP_of (whole_of he).1 hu) = G from hG] at ho ⊢
  obtain ⟨hh, hhe⟩ : ∃ hh : Nat → Int, (fun v => manh (vx W v) (vy W v) tx ty) = hh := ⟨_, rfl⟩
  have HHE := hide (fun v => (congrFun hhe v).symm)
  rw [hhe]
  have HADJ : Hid (∀ v m, m ∈ G.adj v → G.op m = true) := hide (by rw [← HG.out]; exact fun v m h => adj_op HL.out h)
  have hsi : ((idxN W (x, y) : Nat) : Int) = y * W + x := idx_int (W := W) (by omega) (by omega) (by omega)
  have hti : ((idxN W (tx, ty) : Nat) : Int) = ty * W + tx := idx_int (W := W) (by omega) (by omega) (by omega)
  obtain ⟨s, hs⟩ : ∃ s, idxN W (x, y) = s := ⟨_, rfl⟩
  obtain ⟨t, ht⟩ : ∃ t, idxN W (tx, ty) = t := ⟨_, rfl⟩
  have HVT : Hid (vx W t = tx ∧ vy W t = ty) := hide (by rw [← ht]; exact hvt)
  rw [hs] at hsi hsn ho ⊢
  rw [ht] at hti htn ho ⊢
  have HGU : Hid (Guess G hh) := hide (by rw [← HG.out]; exact guess_ok HL.out (tx := tx) (ty := ty) HHE.out)
  obtain ⟨D, F⟩ := far_ex G s ho.1
  have FF := hide F
  have I0 := hide (sinv_start ho.1 F)
  obtain ⟨n, hn⟩ : ∃ n, l.length = n := ⟨_, rfl⟩
  have HN := hide hn
  have HGN := hide (show G.n = n by rw [← hG]; exact hn)
  rw [hn] at HCO HC1 HC2 hsn htn wh ⊢
  have m0 := mul_bd (a := y) (b := W) (A := 256) (B := 256) (by omega) (by omega) (by omega) (by omega)
  have k1 : IntKind.i64.wrap (y * W) = y * W := IntWalk.i64_in _ (by omega)
  have k2 : IntKind.i64.wrap (y * W + x) = (s : Int) := by rw [hsi]; exact IntWalk.i64_in _ (by omega)
  have j1 : (s : Int) < (n : Int) := by omega
  have HR := hide hr
  have HU := hide hu
  have I2 := hide (And.intro i2 HVT.out)
  have qe1 : (costI l W (x, y) == 0) = false := by simp; omega
  have qe2 : (costI l W (tx, ty) == 0) = false := by simp; omega
  generalize costI l W (x, y) = c1 at *
  generalize costI l W (tx, ty) = c2 at *
  clear he hr hu ho e1 e2 e3 e4 hm hl i1 hsi hti hs ht hG hhe F hn m0 hc1 hc2 hvt i2
  go_enter Try.func31, Try.ntmps31
  go_wp2_with fail
  refine (HC1.out _ (by (with_reducible (repeat' (first | exact Ext.refl _ | assumption | refine Ext.drew ?_ | refine Ext.drewN ?_ _ | refine Ext.alloc ?_ _ | refine Ext.setCell ?_ ?_ _ | refine Ext.trans ?_ (by assumption)))); all_goals (first | (simp; done) | (simp; omega)))).mono ?_
  rintro e w1 ⟨rfl, hb1⟩
  obtain ⟨hc1, hf1⟩ := hb1.cells; have hz1 := hb1.size; (repeat (first | rw [World.size_alloc] at hz1 | rw [World.size_drew] at hz1)); have z1_0 : w.heap.size < w1.heap.size := (by omega); have z1_1 : w.heap.size + 1 < w1.heap.size := (by omega); have z1_2 : w.heap.size + 2 < w1.heap.size := (by omega); have z1_3 : w.heap.size + 3 < w1.heap.size := (by omega)
  go_wp2_with fail
  refine (HC2.out _ (by (with_reducible (repeat' (first | exact Ext.refl _ | assumption | refine Ext.drew ?_ | refine Ext.drewN ?_ _ | refine Ext.alloc ?_ _ | refine Ext.setCell ?_ ?_ _ | refine Ext.trans ?_ (by assumption)))); all_goals (first | (simp; done) | (simp; omega)))).mono ?_
  rintro e w2 ⟨rfl, hb2⟩
  have BF : Hid (Blk w2 (w.heap.size) 26 #[.int .i64 W, .int .i64 H, .slice (some ⟨ab, aoff, none⟩) n c]) := hide (by refine Blk.ext ?_ (hb1.trans hb2); (repeat' (first | exact Blk.new_ (by simp) | refine Blk.drew ?_ | refine Blk.over ?_)))
  have BO : Hid (Blk w2 (w.heap.size + 1) 49 #[.int .i64 x, .int .i64 y]) := hide (by refine Blk.ext ?_ (hb1.trans hb2); (repeat' (first | exact Blk.new_ (by simp) | refine Blk.drew ?_ | refine Blk.over ?_)))
  have BT : Hid (Blk w2 (w.heap.size + 2) 49 #[.int .i64 tx, .int .i64 ty]) := hide (by refine Blk.ext ?_ (hb1.trans hb2); (repeat' (first | exact Blk.new_ (by simp) | refine Blk.drew ?_ | refine Blk.over ?_)))
  have BR : Hid (Blk w2 (w.heap.size + 3) 65 #[.slice none 0 0, .int .u64 0, .int .i64 0]) := hide (by refine Blk.ext ?_ (hb1.trans hb2); (repeat' (first | exact Blk.new_ (by simp) | refine Blk.drew ?_ | refine Blk.over ?_)))
  have hx2 : Ext w w2 := (by (with_reducible (repeat' (first | exact Ext.refl _ | assumption | refine Ext.drew ?_ | refine Ext.drewN ?_ _ | refine Ext.alloc ?_ _ | refine Ext.setCell ?_ ?_ _ | refine Ext.trans ?_ (by assumption)))); all_goals (first | (simp; done) | (simp; omega)))
  have hz2 : w.heap.size + 4 ≤ w2.heap.size := by have := hb2.size; omega
  have HX2 := hide hx2
  have q0 := BF.out.at 0 rfl; have q1 := BF.out.at 1 rfl; have q2 := BF.out.at 2 rfl; have qz := BF.out.lt
  clear hc1 hf1 hb1 hb2 hz1 z1_0 z1_1 z1_2 z1_3 HC1 HC2 hx2
  go_wp2_with (at_make; refine wpList_make_one intE T_ints10 0 rfl rfl rfl rfl _ _ rfl (w.heap.size + 4) n rfl rfl (by omega) (by decide) (by omega) ?_)
  intro gs w3 hgs hown3 hx3
  have HGS := hide hgs
  clear hgs
  have S3 := hide (show IntAt w3 (w.heap.size + 4) gs n (fun _ => 0) n by unfold IntAt; rw [← int_zero]; exact hown3)
  have BF3 := hide (Blk.ext BF.out hx3)
  have HX3 := hide hx3
  have hz3 := hx3.size
  clear q0 q1 q2 qz hown3 hx3
  have q0 := BF3.out.at 0 rfl; have q1 := BF3.out.at 1 rfl; have q2 := BF3.out.at 2 rfl; have qz := BF3.out.lt
  go_wp2_with (at_make; refine wpList_make_one u64E T_u64s 0 rfl rfl rfl rfl _ _ rfl (w.heap.size + 4) n rfl rfl (by omega) (by decide) (by omega) ?_)
  intro gg w4 hgg hown4 hx4
  have HGG := hide hgg
  clear hgg
  have S4 := hide (show FarAt w4 (w.heap.size + 4) gg n (fun _ => 0) n by unfold FarAt; rw [← int_zero]; exact hown4)
  have BF4 := hide (Blk.ext BF3.out hx4)
  have HX4 := hide hx4
  have hz4 := hx4.size
  clear q0 q1 q2 qz hown4 hx4
  have q0 := BF4.out.at 0 rfl; have q1 := BF4.out.at 1 rfl; have q2 := BF4.out.at 2 rfl; have qz := BF4.out.lt
  go_wp2_with (at_make; refine wpList_make_one intE T_ints10 0 rfl rfl rfl rfl _ _ rfl (w.heap.size + 4) n rfl rfl (by omega) (by decide) (by omega) ?_)
  intro gc w5 hgc hown5 hx5
  have HGC := hide hgc
  clear hgc
  have S5 := hide (show IntAt w5 (w.heap.size + 4) gc n (fun _ => 0) n by unfold IntAt; rw [← int_zero]; exact hown5)
  have hlt3 := S3.out.lt
  have hlt4 := S4.out.lt
  have hne : gs ≠ gg ∧ gs ≠ gc ∧ gg ≠ gc := by have := HGG.out; have := HGC.out; omega
  have hx25 : Ext w2 w5 := (HX3.out.trans HX4.out).trans hx5
  have A0 := hide (S3.out.ext (HX4.out.trans hx5))
  have A1 := hide (S4.out.ext hx5)
  have BF5 := hide (Blk.ext BF.out hx25)
  have BO5 := hide (Blk.ext BO.out hx25)
  have BT5 := hide (Blk.ext BT.out hx25)
  have BR5 := hide (Blk.ext BR.out hx25)
  have HX5 := hide (HX2.out.trans hx25)
  have HNE := hide hne
  have hz5 := hx25.size
  have hbs : w.heap.size + 4 ≤ gs ∧ w.heap.size + 4 ≤ gg ∧ w.heap.size + 4 ≤ gc := by have := S5.out.lt; omega
  have hg5 := S5.out.lt.2
  have gz0 : gs < w5.heap.size := A0.out.lt.2
  have gz2 : gc < w5.heap.size := hg5
  clear q0 q1 q2 qz hown5 hx5 hx25 BF BO BT BR HX2 BF3 BF4 HX3 HX4 S3 S4 hlt3 hlt4 hz3 hz4
  have q0 := BF5.out.at 0 rfl; have q1 := BF5.out.at 1 rfl; have q2 := BF5.out.at 2 rfl; have qz := BF5.out.lt
  have o0 := BO5.out.at 0 rfl; have o1 := BO5.out.at 1 rfl; have oz := BO5.out.lt
  have a0 := (A0.out.cell hsn).1
  have a1 := (S5.out.cell hsn).1
  have a2 := (A0.out.cell hsn).2
  have a3 := (S5.out.cell hsn).2
  have n02 := hne.2.1
  have n02' : gc ≠ gs := fun e => n02 e.symm
  go_wp2_with fail
  obtain ⟨w6, hw6⟩ : ∃ w6, w6 = (w5.setCell ⟨gs, s, none⟩ (.int .i64 1)).setCell ⟨gc, s, none⟩ (.int .i64 (-1)) := ⟨_, rfl⟩
  have R6 := hide (show Rows3 w6 (w.heap.size + 4) gs gg gc n (start0 s) by rw [hw6]; exact Rows3.start hsn A0.out A1.out S5.out hne)
  have T6 := hide (show Touch (fun k => k = gs ∨ k = gg ∨ k = gc) w5 w6 by rw [hw6]; exact ((Touch.refl _ w5).setCell (p := ⟨gs, s, none⟩) (.inl (.inl rfl)) _).setCell (p := ⟨gc, s, none⟩) (.inl (.inr (.inr rfl))) _)
  rw [← hw6]
  have HW : Hid (∀ wr, Touch (fun k => k = gs ∨ k = gg ∨ k = gc) w5 wr → Row16 wr (some ⟨ab, aoff, none⟩) l ∧ Blk wr w.heap.size 26 #[.int .i64 W, .int .i64 H, .slice (some ⟨ab, aoff, none⟩) n c] ∧ Blk wr (w.heap.size + 2) 49 #[.int .i64 tx, .int .i64 ty] ∧ Blk wr (w.heap.size + 3) 65 #[.slice none 0 0, .int .u64 0, .int .i64 0] ∧ Ext w wr ∧ w5.heap.size ≤ wr.heap.size) := hide (fun wr tt => ⟨(HR.out.ext HX5.out).touch tt (fun b0 o e => by cases e; omega), BF5.out.touch tt (by omega), BT5.out.touch tt (by omega), BR5.out.touch tt (by omega), ((Touch.of_ext (S := fun _ => False) HX5.out).after tt (fun j hj y => by omega)).ext, tt.size⟩)
  have HZ := hide (show w.heap.size + 4 ≤ w5.heap.size by omega)
  have HBS := hide hbs
  clear hw6 a0 a1 a2 a3 q0 q1 q2 qz o0 o1 oz A0 A1 S5 BF5 BO5 BT5 BR5 HX5 k1 k2 j1 hbs hz5 hz2 hg5 gz0 gz2 n02 n02' hne HGS HGG HGC qe1 qe2
  go_loopw [14] (fun sv wr => ∃ A : AS, sv = .int .i64 A.cnt ∧ SInv G D s A (fun _ _ => False) ∧ Rows3 wr (w.heap.size + 4) gs gg gc n A ∧ (∀ p cc k er, ARun G W hh t b A p cc k er → ARun G W hh t b (start0 s) p cc k er) ∧ Touch (fun k => k = gs ∨ k = gg ∨ k = gc) w5 wr) (fun sv _ => n - (intOf sv).toNat)
  case atStart => exact ⟨start0 s, rfl, I0.out, R6.out, fun _ _ _ _ r => r, T6.out⟩
  case round =>
    obtain ⟨A, rfl, hI, hR, hA, htt⟩ := hrel
    clear R6 T6
    have II := hide hI
    have RR := hide hR
    have HA := hide hA
    have TT := hide htt
    have hlts := hR.lt
    have hfew := hI.few
    rw [HGN.out] at hfew
    have HOPL : Hid (∀ u, A.st u ≠ 0 → u < n) := hide (fun u hu => by have := G.lt u (hI.op u hu); rw [HGN.out] at this; exact this)
    have HGB : Hid (∀ u, A.st u ≠ 0 → 0 ≤ A.g u ∧ A.g u ≤ 1000000000000) := hide (fun u hu => by have := hI.bd u hu; omega)
    clear hI hR hA htt
    go_wp2_with fail
    go_loopw [15, 16] (fun bv iv wx => ∃ i : Nat, i ≤ n ∧ iv = .int .i64 i ∧ bv = .int .i64 (bestI (bestN W hh A i)) ∧ Ext wr wx) (fun _ iv _ => n - (intOf iv).toNat)
    case atStart => exact ⟨0, Nat.zero_le _, rfl, rfl, Ext.refl _⟩
    case round =>
      obtain ⟨i, hi, rfl, rfl, hext⟩ := hrel
      have HXx := hide hext
      have hzx := hext.size
      clear hext
      by_cases hlt : i < n
      · have j1 : (i : Int) < (n : Int) := by omega
        have Rx := hide (RR.out.ext HXx.out)
        have s0 : wr.cell? ⟨gs, i, none⟩ = some (.int .i64 (A.st i : Int)) := (Rx.out.st.cell hlt).1
        have gz0 : gs < wr.heap.size := by omega
        by_cases hst : A.st i = 1
        · rw [hst] at s0
          cases hbn : bestN W hh A i with
          | none =>
            have hb2 := hide (show bestN W hh A (i + 1) = some i by unfold bestN; rw [hbn]; simp [hst])
            simp only [bestI]
            clear hbn
            go_wp2_with fail
            refine seqH_start (S := (fun W => (∀ b o, b < wr.heap.size → W.cell? ⟨b, o, none⟩ = wr.cell? ⟨b, o, none⟩) ∧ Ext wr W)) [(0, true), (1, true), (2, true), (3, true), (4, true), (5, true), (6, true), (7, true), (8, true), (9, true), (10, true), (11, true), (12, true), (13, true), (14, true), (15, true), (16, true), (17, true), (18, true), (19, true), (20, true), (21, true), (22, true), (23, true), (24, true), (25, true), (26, true), (27, true), (28, true), (29, true), (30, true), (31, true), (32, true), (33, true), (34, true)] (by kernel_rfl) (by kernel_rfl) (by kernel_rfl) (by decide) (fun _ _ d _ _ h => by cases d <;> exact h) (by first | with_reducible exact pr_start _ | exact pr_of (by (with_reducible (repeat' (first | exact Ext.refl _ | assumption | refine Ext.drew ?_ | refine Ext.drewN ?_ _ | refine Ext.alloc ?_ _ | refine Ext.setCell ?_ ?_ _ | refine Ext.trans ?_ (by assumption)))); all_goals (first | (simp; done) | (simp; omega)))) (fun hHeld => ?_)
            iterate 35 (apply SeqH.free; (· (simp only [List.getElem?_toArray, List.getElem?_cons_succ, List.getElem?_cons_zero]; rfl)); (· first | exact Or.inr ⟨by rfl, rfl⟩ | (refine Or.inl ⟨by rfl, ?_⟩; intro w hSw; (try dsimp only at hSw); go_simp; try with_reducible rfl)); try simp only [Act.put, List.setIfInBounds_toArray, List.set_cons_zero, List.set_cons_succ])
            refine SeqH.done ?_
            have hx := hHeld.2
            clear hHeld
            go_wp2_with fail
            go_roundw
            case rel => exact ⟨i + 1, by omega, by go_num, by rw [hb2.out] <;> rfl, HXx.out.trans hx⟩
            case measure => simp [intOf]; omega
          | some j =>
            obtain ⟨m1, m2, _⟩ := bestN_some hbn
            have hb2 := hide (show bestN W hh A (i + 1) = if lessB (kOf W hh A i) (kOf W hh A j) = true then some i else some j by rw [show bestN W hh A (i + 1) = (match bestN W hh A i with | none => if A.st i = 1 then some i else none | some j => if A.st i = 1 ∧ lessB (kOf W hh A i) (kOf W hh A j) = true then some i else some j) from rfl, hbn]; simp [hst])
            simp only [bestI]
            have g0 : wr.cell? ⟨gg, i, none⟩ = some (.int .u64 (A.g i)) := (Rx.out.g.cell hlt).1
            have g1 : wr.cell? ⟨gg, j, none⟩ = some (.int .u64 (A.g j)) := (Rx.out.g.cell (by omega)).1
            have gz1 : gg < wr.heap.size := by omega
            have hj : decide ((j : Int) < 0) = false := by simp
            have j2 : (j : Int) < (n : Int) := by omega
            obtain ⟨_, _, hbt, _, _, hz5⟩ := HW.out _ TT.out
            have BTx := hide (Blk.ext hbt HXx.out)
            have u0 := BTx.out.at 0 rfl; have u1 := BTx.out.at 1 rfl; have uz := BTx.out.lt
            have vi := HL.out.v_in (v := i) (by rw [HN.out]; omega)
            have vj := HL.out.v_in (v := j) (by rw [HN.out]; omega)
            have H1 := hide (fun w' => r10first_any (vx W i) (vy W i) (A.g i) (vx W j) (vy W j) (A.g j) tx ty w' (by omega) (by omega) (by omega) (by omega) (by have := I2.out.1; omega) (by have := I2.out.1; omega) (HGB.out i (by omega)) (HGB.out j (by omega)))
            rw [show lessB ((A.g i + manh (vx W i) (vy W i) tx ty, manh (vx W i) (vy W i) tx ty), (vy W i, vx W i)) ((A.g j + manh (vx W j) (vy W j) tx ty, manh (vx W j) (vy W j) tx ty), (vy W j, vx W j)) = lessB (kOf W hh A i) (kOf W hh A j) by unfold kOf; rw [HHE.out i, HHE.out j]] at H1
            generalize lessB (kOf W hh A i) (kOf W hh A j) = r at *
            have k1 : (i : Int).tmod W = vx W i := tmod_in (by omega) (by omega) (by omega)
            have k2 : IntKind.i64.wrap ((i : Int).tdiv W) = vy W i := tdiv_in (by omega) (by omega) (by omega)
            have k2' : IntKind.i64.wrap ((i : Int) / W) = vy W i := by rw [← k2, Int.tdiv_eq_ediv_of_nonneg (by omega)]
            have k3 : (j : Int).tmod W = vx W j := tmod_in (by omega) (by omega) (by omega)
            have k4 : IntKind.i64.wrap ((j : Int).tdiv W) = vy W j := tdiv_in (by omega) (by omega) (by omega)
            have k4' : IntKind.i64.wrap ((j : Int) / W) = vy W j := by rw [← k4, Int.tdiv_eq_ediv_of_nonneg (by omega)]
            have hW0 : ¬ W = 0 := by omega
            clear hbn vi vj hbt
            go_wp2_with fail
            refine seqH_start (S := (fun W => (∀ b o, b < wr.heap.size → W.cell? ⟨b, o, none⟩ = wr.cell? ⟨b, o, none⟩) ∧ Ext wr W)) [(0, true), (1, true), (2, true), (3, true), (4, true), (5, true), (6, true), (7, true), (8, true), (9, true), (10, true), (11, true), (12, true), (13, true), (14, true), (15, true), (16, true), (17, true), (18, true), (19, true), (20, true), (21, true), (22, true), (23, true), (24, true), (25, true), (26, true), (27, true), (28, true), (29, true), (30, true), (31, true), (32, false), (33, true), (34, true)] (by kernel_rfl) (by kernel_rfl) (by kernel_rfl) (by decide) (fun _ _ d _ _ h => by cases d <;> exact h) (by first | with_reducible exact pr_start _ | exact pr_of (by (with_reducible (repeat' (first | exact Ext.refl _ | assumption | refine Ext.drew ?_ | refine Ext.drewN ?_ _ | refine Ext.alloc ?_ _ | refine Ext.setCell ?_ ?_ _ | refine Ext.trans ?_ (by assumption)))); all_goals (first | (simp; done) | (simp; omega)))) (fun hHeld => ?_)
            iterate 32 (apply SeqH.free; (· (simp only [List.getElem?_toArray, List.getElem?_cons_succ, List.getElem?_cons_zero]; rfl)); (· first | exact Or.inr ⟨by rfl, rfl⟩ | (refine Or.inl ⟨by rfl, ?_⟩; intro w hSw; (try dsimp only at hSw); go_simp; try with_reducible rfl)); try simp only [Act.put, List.setIfInBounds_toArray, List.set_cons_zero, List.set_cons_succ])
            (apply SeqH.step; (· (simp only [List.getElem?_toArray, List.getElem?_cons_succ, List.getElem?_cons_zero]; rfl)); intro K hK; go_simp; refine (H1.out _).mono ?_; rintro e w8 ⟨rfl, hb8⟩; go_wp2_with fail; refine hK.out _ _ (pr_of (by (with_reducible (repeat' (first | exact Ext.refl _ | assumption | refine Ext.drew ?_ | refine Ext.drewN ?_ _ | refine Ext.alloc ?_ _ | refine Ext.setCell ?_ ?_ _ | refine Ext.trans ?_ (by assumption)))); all_goals (first | (simp; done) | (simp; omega)))) (fun hHeld => ?_); clear hK K; try simp only [Act.put, List.setIfInBounds_toArray, List.set_cons_zero, List.set_cons_succ])
            iterate 2 (apply SeqH.free; (· (simp only [List.getElem?_toArray, List.getElem?_cons_succ, List.getElem?_cons_zero]; rfl)); (· first | exact Or.inr ⟨by rfl, rfl⟩ | (refine Or.inl ⟨by rfl, ?_⟩; intro w hSw; (try dsimp only at hSw); go_simp; try with_reducible rfl)); try simp only [Act.put, List.setIfInBounds_toArray, List.set_cons_zero, List.set_cons_succ])
            refine SeqH.done ?_
            have hx := hHeld.2
            clear hHeld
            cases r
            · go_wp2_with fail
              go_roundw
              case rel => exact ⟨i + 1, by omega, by go_num, by rw [hb2.out] <;> rfl, HXx.out.trans hx⟩
              case measure => simp [intOf]; omega
            · go_wp2_with fail
              go_roundw
              case rel => exact ⟨i + 1, by omega, by go_num, by rw [hb2.out] <;> rfl, HXx.out.trans hx⟩
              case measure => simp [intOf]; omega
        · have hsf : ((A.st i : Int) == 1) = false := by simp; omega
          have hb2 := hide (show bestN W hh A (i + 1) = bestN W hh A i by
            rw [show bestN W hh A (i + 1) = (match bestN W hh A i with | none => if A.st i = 1 then some i else none | some j => if A.st i = 1 ∧ lessB (kOf W hh A i) (kOf W hh A j) = true then some i else some j) from rfl]
            cases bestN W hh A i <;> simp [hst])
          have hb3 := hide (show bestI (bestN W hh A (i + 1)) = bestI (bestN W hh A i) by rw [hb2.out])
          generalize bestI (bestN W hh A i) = bi at *
          generalize (A.st i : Int) = sti at *
          clear hb2
          go_wp2_with fail
          refine seqH_start (S := (fun W => (∀ b o, b < wr.heap.size → W.cell? ⟨b, o, none⟩ = wr.cell? ⟨b, o, none⟩) ∧ Ext wr W)) [(0, true), (1, true), (2, true), (3, true), (4, true), (5, true), (6, true), (7, true), (8, true), (9, true), (10, true), (11, true), (12, true), (13, true), (14, true), (15, true), (16, true), (17, true), (18, true), (19, true), (20, true), (21, true), (22, true), (23, true), (24, true), (25, true), (26, true), (27, true), (28, true), (29, true), (30, true), (31, true), (32, true), (33, true), (34, true)] (by kernel_rfl) (by kernel_rfl) (by kernel_rfl) (by decide) (fun _ _ d _ _ h => by cases d <;> exact h) (by first | with_reducible exact pr_start _ | exact pr_of (by (with_reducible (repeat' (first | exact Ext.refl _ | assumption | refine Ext.drew ?_ | refine Ext.drewN ?_ _ | refine Ext.alloc ?_ _ | refine Ext.setCell ?_ ?_ _ | refine Ext.trans ?_ (by assumption)))); all_goals (first | (simp; done) | (simp; omega)))) (fun hHeld => ?_)
          iterate 35 (apply SeqH.free; (· (simp only [List.getElem?_toArray, List.getElem?_cons_succ, List.getElem?_cons_zero]; rfl)); (· first | exact Or.inr ⟨by rfl, rfl⟩ | (refine Or.inl ⟨by rfl, ?_⟩; intro w hSw; (try dsimp only at hSw); go_simp; try with_reducible rfl)); try simp only [Act.put, List.setIfInBounds_toArray, List.set_cons_zero, List.set_cons_succ])
          refine SeqH.done ?_
          have hx := hHeld.2
          clear hHeld
          go_wp2_with fail
          go_roundw
          case rel => exact ⟨i + 1, by omega, by go_num, by rw [hb3.out], HXx.out.trans hx⟩
          case measure => simp [intOf]; omega
      · obtain rfl : n = i := by omega
        have RRx := hide (RR.out.ext HXx.out)
        have TTx := hide (TT.out.trans (Touch.of_ext HXx.out))
        obtain ⟨hrw, hbf, hbt, hbr, hxw, hz5⟩ := HW.out _ TTx.out
        have HRx := hide hrw
        have BFx := hide hbf
        have BTx := hide hbt
        have BRx := hide hbr
        have HXWx := hide hxw
        clear hrw hbf hbt hbr hxw hlt hi hzx RR TT HXx
        have hzw := HZ.out
        have zrx : w.heap.size + 3 < wr.heap.size := by omega
        cases hbn : bestN W hh A n with
        | none =>
          have HRUN := hide (HA.out _ _ _ _ (ARun.none (G := G) (W := W) (h := hh) (t := t) (b := b) (fun v hv => bestN_none hbn v (HOPL.out v (by omega)) hv)))
          simp only [bestI]
          clear hbn
          have r0 := BRx.out.at 0 rfl; have r1 := BRx.out.at 1 rfl; have r2 := BRx.out.at 2 rfl; have rz := BRx.out.lt
          have f0 := BRx.out.frozen 0
          have f1 := BRx.out.frozen 1
          have f2 := BRx.out.frozen 2
          go_wp2_with fail
          have hxw := HXWx.out
          exact bodyPost_ret (v := .tuple #[.agg #[.slice none 0 0, .int .u64 0, .int .i64 A.cnt], .int .i64 22]) (by simp [results, Try.results31, go_sem, *]) rfl ⟨(by (with_reducible (repeat' (first | exact Ext.refl _ | assumption | refine Ext.drew ?_ | refine Ext.drewN ?_ _ | refine Ext.alloc ?_ _ | refine Ext.setCell ?_ ?_ _ | refine Ext.trans ?_ (by assumption)))); all_goals (first | (simp; done) | (simp; omega))), [], 0, A.cnt, 22, _, HRUN.out, rfl, (Own.nil cellE _ 0 49).reads⟩
        | some v =>
          have hB0 := bestN_best (G := G) (by rw [HGN.out]; exact hbn) (fun u hu => by rw [HGN.out]; exact HOPL.out u (by omega))
          obtain ⟨hvn, hst1, _⟩ := bestN_some hbn
          have HB := hide hB0
          have HST := hide hst1
          simp only [bestI]
          have j0 : decide ((v : Int) < 0) = false := by simp
          clear hbn hB0
          by_cases hbud : A.cnt = b
          · have HRUN := hide (HA.out _ _ _ _ (ARun.full (G := G) (W := W) (h := hh) (t := t) v hst1 hbud))
            have hbb : (A.cnt == b) = true := by simpa using hbud
            clear hbud hst1
            have r0 := BRx.out.at 0 rfl; have r1 := BRx.out.at 1 rfl; have r2 := BRx.out.at 2 rfl; have rz := BRx.out.lt
            have f0 := BRx.out.frozen 0
            have f1 := BRx.out.frozen 1
            have f2 := BRx.out.frozen 2
            go_wp2_with fail
            have hxw := HXWx.out
            exact bodyPost_ret (v := .tuple #[.agg #[.slice none 0 0, .int .u64 0, .int .i64 A.cnt], .int .i64 23]) (by simp [results, Try.results31, go_sem, *]) rfl ⟨(by (with_reducible (repeat' (first | exact Ext.refl _ | assumption | refine Ext.drew ?_ | refine Ext.drewN ?_ _ | refine Ext.alloc ?_ _ | refine Ext.setCell ?_ ?_ _ | refine Ext.trans ?_ (by assumption)))); all_goals (first | (simp; done) | (simp; omega))), [], 0, A.cnt, 23, _, HRUN.out, rfl, (Own.nil cellE _ 0 49).reads⟩
          · have hbb : (A.cnt == b) = false := by simpa using hbud
            have HBUD := hide hbud
            have hsc := RRx.out.st.cell hvn
            rw [hst1] at hsc
            have s0 := hsc.1
            have s1 := hsc.2
            have j1 : (v : Int) < (n : Int) := by omega
            have gz0 : gs < wr.heap.size := RRx.out.lt.1.2
            have k0 : IntKind.i64.wrap (A.cnt + 1) = A.cnt + 1 := IntWalk.i64_in _ (by omega)
            have HVN := hide hvn
            clear hbud hst1 hsc
            go_wp2_with fail
            obtain ⟨w7, hw7⟩ : ∃ w7, w7 = wr.setCell ⟨gs, v, none⟩ (.int .i64 2) := ⟨_, rfl⟩
            have R7 := hide (show Rows3 w7 (w.heap.size + 4) gs gg gc n (A.settle v) by rw [hw7]; exact Rows3.settle RRx.out hvn)
            have t7 : Touch (fun k => k = gs ∨ k = gg ∨ k = gc) wr w7 := by rw [hw7]; exact (Touch.refl _ wr).setCell (p := ⟨gs, v, none⟩) (.inl (.inl rfl)) _
            have T7 := hide (TTx.out.trans t7)
            rw [← hw7]
            have hz7 : wr.heap.size ≤ w7.heap.size := t7.size
            have hvi := HL.out.v_in (v := v) (by rw [HN.out]; exact hvn)
            have hui : vy W v * W + vx W v = (v : Int) := by
              have := idx_int (W := W) hvi.1 wh.1 hvi.2.2.1
              rw [idx_v wh.1 v] at this
              exact this.symm
            have k1 : (v : Int).tmod W = vx W v := tmod_in (by omega) (by omega) (by omega)
            have k2 : IntKind.i64.wrap ((v : Int).tdiv W) = vy W v := tdiv_in (by omega) (by omega) (by omega)
            have k2' : IntKind.i64.wrap ((v : Int) / W) = vy W v := by rw [← k2, Int.tdiv_eq_ediv_of_nonneg (by omega)]
            have hW0 : ¬ W = 0 := by omega
            obtain ⟨X, hX⟩ : ∃ z, vx W v = z := ⟨_, rfl⟩
            obtain ⟨Y, hY⟩ : ∃ z, vy W v = z := ⟨_, rfl⟩
            rw [hX] at k1
            rw [hY] at k2 k2'
            rw [hX, hY] at hvi hui
            have HXY := hide (And.intro hX hY)
            have HUI := hide hui
            clear hw7 t7 s0 s1 hX hY hui RRx TTx BFx BTx BRx HRx HXWx
            refine seqH_start (S := (fun W => (∀ b o, b < w7.heap.size → W.cell? ⟨b, o, none⟩ = w7.cell? ⟨b, o, none⟩) ∧ Ext w7 W)) [(0, true), (1, true), (2, true), (3, true), (4, true), (5, true), (6, true), (7, false), (8, false)] (by kernel_rfl) (by kernel_rfl) (by kernel_rfl) (by decide) (fun _ _ d _ _ h => by cases d <;> exact h) (by first | with_reducible exact pr_start _ | exact pr_of (by (with_reducible (repeat' (first | exact Ext.refl _ | assumption | refine Ext.drew ?_ | refine Ext.drewN ?_ _ | refine Ext.alloc ?_ _ | refine Ext.setCell ?_ ?_ _ | refine Ext.trans ?_ (by assumption)))); all_goals (first | (simp; done) | (simp; omega)))) (fun hHeld => ?_)
            iterate 7 (apply SeqH.free; (· (simp only [List.getElem?_toArray, List.getElem?_cons_succ, List.getElem?_cons_zero]; rfl)); (· first | exact Or.inr ⟨by rfl, rfl⟩ | (refine Or.inl ⟨by rfl, ?_⟩; intro w hSw; (try dsimp only at hSw); go_simp; try with_reducible rfl)); try simp only [Act.put, List.setIfInBounds_toArray, List.set_cons_zero, List.set_cons_succ])
            (apply SeqH.step; (· (simp only [List.getElem?_toArray, List.getElem?_cons_succ, List.getElem?_cons_zero]; rfl)); intro K hK; go_simp; refine hK.out _ _ (pr_of (by (with_reducible (repeat' (first | exact Ext.refl _ | assumption | refine Ext.drew ?_ | refine Ext.drewN ?_ _ | refine Ext.alloc ?_ _ | refine Ext.setCell ?_ ?_ _ | refine Ext.trans ?_ (by assumption)))); all_goals (first | (simp; done) | (simp; omega)))) (fun hHeld => ?_); clear hK K; try simp only [Act.put, List.setIfInBounds_toArray, List.set_cons_zero, List.set_cons_succ])
            (apply SeqH.step; (· (simp only [List.getElem?_toArray, List.getElem?_cons_succ, List.getElem?_cons_zero]; rfl)); intro K hK; go_simp; refine hK.out _ _ (pr_of (by (with_reducible (repeat' (first | exact Ext.refl _ | assumption | refine Ext.drew ?_ | refine Ext.drewN ?_ _ | refine Ext.alloc ?_ _ | refine Ext.setCell ?_ ?_ _ | refine Ext.trans ?_ (by assumption)))); all_goals (first | (simp; done) | (simp; omega)))) (fun hHeld => ?_); clear hK K; try simp only [Act.put, List.setIfInBounds_toArray, List.set_cons_zero, List.set_cons_succ])
            refine SeqH.done ?_
            clear hHeld
            obtain ⟨w8, hw8⟩ : ∃ w8, w8 = (w7.alloc (.cells #[.int .i64 X, .int .i64 Y] 49)).drew := ⟨_, rfl⟩
            have C8 := hide (show Blk w8 w7.heap.size 49 #[.int .i64 X, .int .i64 Y] by rw [hw8]; exact Blk.drew (Blk.new_ rfl))
            have hx78 : Ext w7 w8 := by rw [hw8]; exact ((Ext.refl _).alloc _).drew
            have R8 := hide (R7.out.ext hx78)
            have T8 := hide (T7.out.trans (Touch.of_ext hx78))
            have hlt7 := R7.out.lt
            have hz78 := hx78.size
            rw [← hw8]
            obtain ⟨cb, hcb⟩ : ∃ z, w7.heap.size = z := ⟨_, rfl⟩
            rw [hcb] at C8 ⊢
            have hcne : cb ≠ gs ∧ cb ≠ gg ∧ cb ≠ gc ∧ w.heap.size + 4 ≤ cb ∧ cb < w8.heap.size := ⟨by omega, by omega, by omega, by omega, C8.out.lt⟩
            have HCN := hide hcne
            obtain ⟨hrw, hbf, hbt, hbr, hxw, hz58⟩ := HW.out _ T8.out
            have HR8 := hide hrw
            have BF8 := hide hbf
            have BT8 := hide hbt
            have BR8 := hide hbr
            have HXW8 := hide hxw
            have hgv := HGB.out v (by have := HST.out; omega)
            clear hw8 hx78 R7 T7 hlt7 hz78 hcb hcne hrw hbf hbt hbr hxw k1 k2 k2' hz7 zrx gz0 hz5
            have u0 := C8.out.at 0 rfl; have u1 := C8.out.at 1 rfl; have uz := C8.out.lt
            have q0 := BT8.out.at 0 rfl; have q1 := BT8.out.at 1 rfl; have qz := BT8.out.lt
            have hq1 := fun w => eq_cell (X, Y) (tx, ty) w
            simp only at hq1
            by_cases hvt : v = t
            · have hcell : cellB (X, Y) (tx, ty) = true := by
                obtain ⟨e1, e2⟩ := HXY.out
                obtain ⟨e3, e4⟩ := HVT.out
                rw [cellB_eq, ← e1, ← e2, ← e3, ← e4, hvt]
                simp
              rw [hcell] at hq1
              have HVTE := hide hvt
              clear hcell hvt
              obtain ⟨l0, c1, c2, c3⟩ := chain_ex II.out (A.g v).toNat v (by omega) (by have := HST.out; omega)
              have hll : l0.length ≤ n := nodup_le c3 (fun u hu => HOPL.out u (c2 u hu).1)
              have HRUN := hide (HA.out _ _ _ _ (ARun.found (G := G) (W := W) (h := hh) (t := t) (b := b) (by rw [← HVTE.out]; exact HB.out) HBUD.out (by rw [← HVTE.out]; exact c1)))
              rw [← HVTE.out] at HRUN
              have HC0 := hide c1
              have HCI := hide (fun u hu => HOPL.out u (c2 u hu).1)
              have HNG := hide (fun (u : Nat) (hu : u ∈ l0) (h : A.came u < 0) => (by
                by_cases e : u = s
                · rw [e]; exact II.out.sc
                · obtain ⟨u', h1, _⟩ := II.out.back u (c2 u hu).1 e
                  omega : A.came u = -1))
              have R8' := hide (show Rows3 w8 (w.heap.size + 4) gs gg gc n (A.settle v) from R8.out)
              clear c1 c2 c3
              go_wp2_with fail
              obtain ⟨w9, hw9⟩ : ∃ w9, w9 = w8.alloc (.cells #[] 49) := ⟨_, rfl⟩
              have hx9 : Ext w8 w9 := by rw [hw9]; exact (Ext.refl _).alloc _
              have O9 := hide (show Own cellE w9 w8.heap.size 49 (.slice (some ⟨w8.heap.size, 0, none⟩) 0 0) [] by rw [hw9]; exact Own.lit0 _ _ _ _ _ rfl (Nat.le_refl _))
              have HX9 := hide hx9
              rw [← hw9]
              clear hw9 hx9 u0 u1 uz q0 q1 qz hq1
              go_loopg [18, 19] l0.length (fun gk ov iv wr => ∃ (pre rest : List Nat) (g cp : Nat), l0 = pre ++ rest ∧ gk = rest.length ∧ ov = .slice (some ⟨g, 0, none⟩) pre.length cp ∧ Own cellE wr w8.heap.size 49 ov (pre.reverse.map (cellV W)) ∧ Ext w8 wr ∧ ((rest = [] ∧ iv = .int .i64 (-1)) ∨ ∃ (u : Nat) (r : List Nat), rest = u :: r ∧ iv = .int .i64 (u : Int) ∧ Chain A.came u rest))
              case atStart => exact ⟨[], l0, _, _, rfl, rfl, rfl, O9.out, HX9.out, .inr (by cases HC0.out with | stop h => exact ⟨v, _, rfl, rfl, .stop h⟩ | go h1 h2 => exact ⟨v, _, rfl, rfl, .go h1 h2⟩)⟩
              case round =>
                obtain ⟨pre, rest, g, cp, hlr, rfl, rfl, ho, hx, hc⟩ := hrel
                have HLR := hide hlr
                have HO := hide ho
                have HX := hide hx
                have hprl : pre.length ≤ 65536 := by rw [hlr] at hll; simp at hll; omega
                have hzr := hx.size
                have hgl := own_lt ho rfl
                have hcn := HCN.out
                clear hlr ho hx HC0
                rcases hc with ⟨rfl, rfl⟩ | ⟨u, r, rfl, rfl, hch⟩
                · have hpl : l0 = pre := by rw [HLR.out, List.append_nil]
                  subst hpl
                  have GR := (R8.out.ext HX.out).g.cell HVN.out
                  have g0 : wr.cell? ⟨gg, v, none⟩ = some (.int .u64 (A.g v)) := GR.1
                  have hgz : gg < wr.heap.size := by have := R8.out.lt; omega
                  have BRr := hide (Blk.ext BR8.out HX.out)
                  have r0 := BRr.out.at 0 rfl; have r1 := BRr.out.at 1 rfl; have r2 := BRr.out.at 2 rfl; have rz := BRr.out.lt
                  have f0 := BRr.out.frozen 0
                  have f1 := BRr.out.frozen 1
                  have f2 := BRr.out.frozen 2
                  clear GR
                  have FIN : Hid (∀ w', Touch (fun j => j = w.heap.size + 3) wr w' → Ext w w' ∧ Reads cellE w' (.slice (some ⟨g, 0, none⟩) l0.length cp) (l0.reverse.map (cellV W))) := hide (fun w' tt => ⟨((Touch.of_ext (S := fun _ => False) (HXW8.out.trans HX.out)).after tt (fun j hj e => by omega)).ext, (Own.touch HO.out tt (fun k hk e => by have := (own_lt HO.out (k := k) hk).1; have : k = w.heap.size + 3 := e; omega)).reads⟩)
                  have tF : Touch (fun j => j = w.heap.size + 3) wr (((wr.setCell ⟨w.heap.size + 3, 0, none⟩ (.slice (some ⟨g, 0, none⟩) l0.length cp)).setCell ⟨w.heap.size + 3, 1, none⟩ (.int .u64 (A.g v))).setCell ⟨w.heap.size + 3, 2, none⟩ (.int .i64 (A.cnt + 1))) := ((((Touch.refl (fun j => j = w.heap.size + 3) wr).setCell (p := ⟨w.heap.size + 3, 0, none⟩) (.inl rfl) _).setCell (p := ⟨w.heap.size + 3, 1, none⟩) (.inl rfl) _).setCell (p := ⟨w.heap.size + 3, 2, none⟩) (.inl rfl) _)
                  have TF := hide tF
                  clear tF
                  go_wp2_with fail
                  exact bodyPost_ret (v := .tuple #[.agg #[.slice (some ⟨g, 0, none⟩) l0.length cp, .int .u64 (A.g v), .int .i64 (A.cnt + 1)], .int .i64 0]) (by simp [results, Try.results31, go_sem, *]) rfl ⟨(FIN.out _ TF.out).1, l0.reverse, A.g v, A.cnt + 1, 0, (by rw [← HVTE.out]; exact HRUN.out), _, rfl, (FIN.out _ TF.out).2⟩
                · have hun := HCI.out u (by rw [HLR.out]; simp)
                  have k1 : (u : Int).tmod W = vx W u := tmod_in (by omega) (by omega) (by omega)
                  have k2 : IntKind.i64.wrap ((u : Int).tdiv W) = vy W u := tdiv_in (by omega) (by omega) (by omega)
                  have k2' : IntKind.i64.wrap ((u : Int) / W) = vy W u := by rw [← k2, Int.tdiv_eq_ediv_of_nonneg (by omega)]
                  have hpl : (pre.reverse.map (cellV W)).length = pre.length := by simp
                  have HPL := hide hpl
                  have HCH := hide hch
                  have hju : (u : Int) < (n : Int) := by omega
                  have hgc := R8.out.lt.2.2.2
                  have zgc : gc < wr.heap.size := by omega
                  have c0 : wr.cell? ⟨gc, u, none⟩ = some (.int .i64 (A.came u)) := ((R8.out.ext HX.out).came.cell hun).1
                  clear hch hpl
                  go_wp2_with fail
                  refine seqH_start (S := (fun W' => Ext wr W')) [(0, true), (1, true), (2, true), (3, true), (4, true), (5, true), (6, true), (8, true), (7, false), (9, false), (10, true)] (by kernel_rfl) (by kernel_rfl) (by kernel_rfl) (by decide) (fun _ _ d _ _ h => by cases d <;> exact h) (by (with_reducible (repeat' (first | exact Ext.refl _ | assumption | refine Ext.drew ?_ | refine Ext.drewN ?_ _ | refine Ext.alloc ?_ _ | refine Ext.setCell ?_ ?_ _ | refine Ext.trans ?_ (by assumption)))); all_goals (first | (simp; done) | (simp; omega))) (fun hHeld => ?_)
                  iterate 8 (apply SeqH.free; (· (simp only [List.getElem?_toArray, List.getElem?_cons_succ, List.getElem?_cons_zero]; rfl)); (· first | exact Or.inr ⟨by rfl, rfl⟩ | (refine Or.inl ⟨by rfl, ?_⟩; intro w hSw; (try dsimp only at hSw); go_simp; try with_reducible rfl)); try simp only [Act.put, List.setIfInBounds_toArray, List.set_cons_zero, List.set_cons_succ])
                  (apply SeqH.step; (· (simp only [List.getElem?_toArray, List.getElem?_cons_succ, List.getElem?_cons_zero]; rfl)); intro K hK; go_simp; refine hK.out _ _ ((by (with_reducible (repeat' (first | exact Ext.refl _ | assumption | refine Ext.drew ?_ | refine Ext.drewN ?_ _ | refine Ext.alloc ?_ _ | refine Ext.setCell ?_ ?_ _ | refine Ext.trans ?_ (by assumption)))); all_goals (first | (simp; done) | (simp; omega)))) (fun hHeld => ?_); clear hK K; try simp only [Act.put, List.setIfInBounds_toArray, List.set_cons_zero, List.set_cons_succ])
                  (apply SeqH.step; (· (simp only [List.getElem?_toArray, List.getElem?_cons_succ, List.getElem?_cons_zero]; rfl)); intro K hK; refine step_app_more cellE T_cells rfl _ _ rfl w8.heap.size (.slice (some ⟨wr.heap.size, 0, none⟩) 1 1) [cellV W u] (pre.reverse.map (cellV W)) (by rfl) (Own.drew (Own.lit1 cellE wr _ _ _ (cellV W u) _ rfl rfl hzr)) g 0 cp (by rw [HPL.out]; rfl) (by rw [HPL.out]; exact HO.out.reads.ext (by (with_reducible (repeat' (first | exact Ext.refl _ | assumption | refine Ext.drew ?_ | refine Ext.drewN ?_ _ | refine Ext.alloc ?_ _ | refine Ext.setCell ?_ ?_ _ | refine Ext.trans ?_ (by assumption)))); all_goals (first | (simp; done) | (simp; omega)))) (by rw [HPL.out]; simp only [List.length_singleton]; omega) (by rw [HPL.out]; simp only [List.length_singleton]; omega) (by simp) (by simp; omega) ?_; intro g9 c9' w9 o9 t9; have O9 := hide o9; have X9 := hide (((Touch.of_ext (S := fun _ => False) (show Ext wr _ from (by (with_reducible (repeat' (first | exact Ext.refl _ | assumption | refine Ext.drew ?_ | refine Ext.drewN ?_ _ | refine Ext.alloc ?_ _ | refine Ext.setCell ?_ ?_ _ | refine Ext.trans ?_ (by assumption)))); all_goals (first | (simp; done) | (simp; omega))))).after t9 (fun k hk h => by simp only [Value.ownBlock, Option.some.injEq] at h; omega)).ext); have c9 := (X9.out.cell (p := ⟨gc, u, none⟩) zgc).trans c0; have z9 : gc < w9.heap.size := Nat.lt_of_lt_of_le zgc X9.out.size; clear o9 t9; refine hK.out _ _ (X9.out) (fun hHeld => ?_); clear hK K; try simp only [Act.put, List.setIfInBounds_toArray, List.set_cons_zero, List.set_cons_succ])
                  iterate 1 (apply SeqH.free; (· (simp only [List.getElem?_toArray, List.getElem?_cons_succ, List.getElem?_cons_zero]; rfl)); (· first | exact Or.inr ⟨by rfl, rfl⟩ | (refine Or.inl ⟨by rfl, ?_⟩; intro w hSw; (try dsimp only at hSw); go_simp; try with_reducible rfl)); try simp only [Act.put, List.setIfInBounds_toArray, List.set_cons_zero, List.set_cons_succ])
                  refine SeqH.done ?_
                  have REL : Hid (∃ (pre2 rest2 : List Nat) (g2 cp2 : Nat), l0 = pre2 ++ rest2 ∧ r.length = rest2.length ∧ Value.slice (some ⟨g9, 0, none⟩) (pre.length + 1) c9' = .slice (some ⟨g2, 0, none⟩) pre2.length cp2 ∧ Own cellE w9 w8.heap.size 49 (.slice (some ⟨g9, 0, none⟩) (pre.length + 1) c9') (pre2.reverse.map (cellV W)) ∧ Ext w8 w9 ∧ ((rest2 = [] ∧ Value.int .i64 (A.came u) = .int .i64 (-1)) ∨ ∃ (u2 : Nat) (r2 : List Nat), rest2 = u2 :: r2 ∧ Value.int .i64 (A.came u) = .int .i64 (u2 : Int) ∧ Chain A.came u2 rest2)) := hide (by
                    refine ⟨pre ++ [u], r, g9, c9', by rw [HLR.out]; simp, rfl, by simp, ?_, HX.out.trans X9.out, ?_⟩
                    · have h := O9.out
                      rw [show ([cellV W u] ++ pre.reverse.map (cellV W)).length = pre.length + 1 by simp] at h
                      rw [show (pre ++ [u]).reverse.map (cellV W) = [cellV W u] ++ pre.reverse.map (cellV W) by simp]
                      exact h
                    · cases HCH.out with
                      | stop h => exact .inl ⟨rfl, by rw [HNG.out u (by rw [HLR.out]; simp) h]⟩
                      | go h1 h2 =>
                        obtain ⟨r2, hr2⟩ : ∃ r2, r = _ :: r2 := by cases h2 <;> exact ⟨_, rfl⟩
                        exact .inr ⟨_, r2, hr2, by rw [h1], h2⟩)
                  clear hHeld
                  go_wp2_with fail
                  go_roundg r.length
                  case measure => simp
                  case rel => exact REL.out
            · have hcell : cellB (X, Y) (tx, ty) = false := by
                rw [cellB_eq, decide_eq_false_iff_not]
                intro e
                injection e with e1 e2
                apply hvt
                rw [← idx_v wh.1 v, ← idx_v wh.1 t, HXY.out.1, HXY.out.2, HVT.out.1, HVT.out.2, e1, e2]
              rw [hcell] at hq1
              have HVNT := hide hvt
              have HST2 := hide (show (A.settle v).st v = 2 from updN_same _ _ _)
              have HADJV : Hid (G.adj v = (nbC (openB l W 0 0 W H) X Y 4).map (idxN W)) := hide (by rw [← HG.out, ← HXY.out.1, ← HXY.out.2]; rfl)
              clear hcell hvt
              go_wp2_with fail
              go_loopw [20] (fun dv wd => ∃ (k : Nat) (A2 : AS), k ≤ 4 ∧ dv = .int .i64 k ∧ A2 = rxs G v (A.settle v) ((nbC (openB l W 0 0 W H) X Y k).map (idxN W)) ∧ A2.st v = 2 ∧ A2.g v = A.g v ∧ Rows3 wd (w.heap.size + 4) gs gg gc n A2 ∧ Touch (fun k => k = gs ∨ k = gg ∨ k = gc) w8 wd) (fun dv _ => 4 - (intOf dv).toNat)
              case atStart => exact ⟨0, A.settle v, by omega, rfl, rfl, HST2.out, rfl, R8.out, Touch.refl _ _⟩
              case round =>
                obtain ⟨k, A2, hk, rfl, hA2, hst2, hg2, hR, htd⟩ := hrel
                have HA2 := hide hA2
                have HS2 := hide hst2
                have HG2 := hide hg2
                have RR := hide hR
                have TD := hide htd
                have TT := hide (T8.out.trans htd)
                obtain ⟨hrw, hbf, hbt, hbr, hxw, hzw5⟩ := HW.out _ TT.out
                have HRr := hide hrw
                have BFr := hide hbf
                have HXWr := hide hxw
                have CR := hide (C8.out.touch htd (fun e => by have := HCN.out; omega))
                have hcn := HCN.out
                have hzd := htd.size
                clear hA2 hst2 hg2 hR htd hrw hbf hbt hbr hxw u0 u1 uz q0 q1 qz hq1
                by_cases hk4 : k < 4
                · have hsd := step_dir10 hk4 X Y
                  have hdb := dir_bd k
                  have S1 := hide (fun w' => rStep_any X Y (k : Int) w' (by omega) (by omega))
                  rw [hsd.1, hsd.2] at S1
                  have hnb : nbC (openB l W 0 0 W H) X Y (k + 1) = nbC (openB l W 0 0 W H) X Y k ++ if openB l W 0 0 W H (X + dirX k) (Y + dirY k) = true then [(X + dirX k, Y + dirY k)] else [] := rfl
                  obtain ⟨PP, hP⟩ : ∃ z, X + dirX k = z := ⟨_, rfl⟩
                  obtain ⟨QQ, hQ⟩ : ∃ z, Y + dirY k = z := ⟨_, rfl⟩
                  have hPQ : -1 ≤ PP ∧ PP ≤ 256 ∧ -1 ≤ QQ ∧ QQ ≤ 256 := by omega
                  rw [hP, hQ] at S1 hnb
                  have HNB := hide hnb
                  have SI := hide (fun w' => HIN.out w' PP QQ)
                  have u0 := CR.out.at 0 rfl; have u1 := CR.out.at 1 rfl; have uz := CR.out.lt
                  clear hsd hdb hP hQ hnb
                  go_wp2_with fail
                  refine (S1.out _).mono ?_
                  rintro e w10 ⟨rfl, hb10⟩
                  have hx10 : Ext wr w10 := (by (with_reducible (repeat' (first | exact Ext.refl _ | assumption | refine Ext.drew ?_ | refine Ext.drewN ?_ _ | refine Ext.alloc ?_ _ | refine Ext.setCell ?_ ?_ _ | refine Ext.trans ?_ (by assumption)))); all_goals (first | (simp; done) | (simp; omega)))
                  have HX10 := hide hx10
                  have B10 := hide (Blk.ext BFr.out hx10)
                  clear u0 u1 uz hx10 hb10
                  have p0 := B10.out.at 0 rfl; have p1 := B10.out.at 1 rfl; have p2 := B10.out.at 2 rfl; have pz := B10.out.lt
                  go_wp2_with fail
                  obtain ⟨w11, hw11⟩ : ∃ w11, w11 = w10.alloc (.cells #[.int .i64 PP, .int .i64 QQ] 49) := ⟨_, rfl⟩
                  have M11 := hide (show Blk w11 w10.heap.size 49 #[.int .i64 PP, .int .i64 QQ] by rw [hw11]; exact Blk.new_ rfl)
                  have hx11 : Ext wr w11 := by rw [hw11]; exact HX10.out.alloc _
                  have R11 := hide (RR.out.ext hx11)
                  have TD11 := hide (TD.out.trans (Touch.of_ext hx11))
                  have B11 := hide (Blk.ext BFr.out hx11)
                  have HR11 := hide (HRr.out.ext hx11)
                  rw [← hw11]
                  obtain ⟨mb, hmb⟩ : ∃ z, w10.heap.size = z := ⟨_, rfl⟩
                  rw [hmb] at M11 ⊢
                  clear hw11 hx11 hmb p0 p1 p2 pz RR TD TT HRr BFr HXWr CR HX10 B10
                  have END0 : Hid (rxs G v (A.settle v) ((nbC (openB l W 0 0 W H) X Y (k + 1)).map (idxN W)) = A2 → ∀ w', Ext w11 w' → ∃ (k' : Nat) (A3 : AS), k' ≤ 4 ∧ Value.int .i64 ((k : Int) + 1) = .int .i64 k' ∧ A3 = rxs G v (A.settle v) ((nbC (openB l W 0 0 W H) X Y k').map (idxN W)) ∧ A3.st v = 2 ∧ A3.g v = A.g v ∧ Rows3 w' (w.heap.size + 4) gs gg gc n A3 ∧ Touch (fun k => k = gs ∨ k = gg ∨ k = gc) w8 w') := hide (fun he w' hx => ⟨k + 1, A2, hk4, by go_num, he.symm, HS2.out, HG2.out, R11.out.ext hx, TD11.out.trans (Touch.of_ext hx)⟩)
                  have hbo : openB l W 0 0 W H PP QQ = (inB W H PP QQ && decide (0 < costI l W (PP, QQ))) := by rw [inB_has HL.out.may]; rfl
                  have HBO := hide hbo
                  clear hbo
                  refine (SI.out _).mono ?_
                  rintro e w13 ⟨rfl, hb13⟩
                  have hx13 : Ext w11 w13 := (by (with_reducible (repeat' (first | exact Ext.refl _ | assumption | refine Ext.drew ?_ | refine Ext.drewN ?_ _ | refine Ext.alloc ?_ _ | refine Ext.setCell ?_ ?_ _ | refine Ext.trans ?_ (by assumption)))); all_goals (first | (simp; done) | (simp; omega)))
                  have HX13 := hide hx13
                  have B13 := hide (Blk.ext B11.out hx13)
                  have M13 := hide (Blk.ext M11.out hx13)
                  clear hb13 hx13
                  cases hin : inB W H PP QQ
                  · have HSM := hide (END0.out (by rw [HNB.out, if_neg (by rw [HBO.out, hin]; simp), List.append_nil]; exact HA2.out.symm))
                    clear END0 hin
                    go_wp2_with fail
                    go_roundw
                    case rel => exact HSM.out _ HX13.out
                    case measure => simp [intOf]; omega
                  · have pin := inB_true.1 hin
                    have HCX := hide (fun (w' : World) (hx : Ext w13 w') => HCO.out w' (HR11.out.ext (HX13.out.trans hx)) PP QQ (by omega))
                    have hun := HL.out.idx_lt (x := PP) (y := QQ) (by omega)
                    rw [HN.out] at hun
                    have hci := costI_bd HU.out W (PP, QQ)
                    have hgc : G.cost (idxN W (PP, QQ)) = costI l W (PP, QQ) := by rw [← HG.out, cost_idx]; rfl
                    rw [hin] at HBO
                    have hrx : 0 < costI l W (PP, QQ) → rxs G v (A.settle v) ((nbC (openB l W 0 0 W H) X Y (k + 1)).map (idxN W)) = rx G v A2 (idxN W (PP, QQ)) := fun h => by
                      rw [HNB.out, if_pos (by rw [HBO.out]; simpa using h), List.map_append]
                      unfold rxs
                      rw [List.foldl_append]
                      have := HA2.out
                      unfold rxs at this
                      rw [← this]
                      rfl
                    have hui := idx_int (W := W) (x := PP) (y := QQ) (by omega) (by omega) (by omega)
                    have m1 := mul_bd (a := QQ) (b := W) (A := 256) (B := 256) (by omega) (by omega) (by omega) (by omega)
                    have k1 : IntKind.i64.wrap (QQ * W) = QQ * W := IntWalk.i64_in _ (by omega)
                    have k2 : IntKind.i64.wrap (QQ * W + PP) = ((idxN W (PP, QQ) : Nat) : Int) := by rw [hui]; exact IntWalk.i64_in _ (by omega)
                    obtain ⟨u, hu⟩ : ∃ z, idxN W (PP, QQ) = z := ⟨_, rfl⟩
                    rw [hu] at hun k2 hgc hrx
                    obtain ⟨cst, hcst⟩ : ∃ z, costI l W (PP, QQ) = z := ⟨_, rfl⟩
                    rw [hcst] at HCX HBO hci hgc hrx
                    have HRX := hide hrx
                    have HGC := hide hgc
                    have HUN := hide hun
                    clear hin hu hui m1 hcst hgc hrx pin SI
                    have p0 := B13.out.at 0 rfl; have p1 := B13.out.at 1 rfl; have p2 := B13.out.at 2 rfl; have pz := B13.out.lt
                    have m0 := M13.out.at 0 rfl; have m1 := M13.out.at 1 rfl; have mz := M13.out.lt
                    by_cases hc0 : cst = 0
                    · subst hc0
                      have HSM := hide (END0.out (by rw [HNB.out, if_neg (by rw [HBO.out]; simp), List.append_nil]; exact HA2.out.symm))
                      clear END0 HRX hci
                      go_wp2_with fail
                      refine (HCX.out _ (by (with_reducible (repeat' (first | exact Ext.refl _ | assumption | refine Ext.drew ?_ | refine Ext.drewN ?_ _ | refine Ext.alloc ?_ _ | refine Ext.setCell ?_ ?_ _ | refine Ext.trans ?_ (by assumption)))); all_goals (first | (simp; done) | (simp; omega)))).mono ?_
                      rintro e w14 ⟨rfl, hb14⟩
                      have hx14 : Ext w13 w14 := (by (with_reducible (repeat' (first | exact Ext.refl _ | assumption | refine Ext.drew ?_ | refine Ext.drewN ?_ _ | refine Ext.alloc ?_ _ | refine Ext.setCell ?_ ?_ _ | refine Ext.trans ?_ (by assumption)))); all_goals (first | (simp; done) | (simp; omega)))
                      have HX14 := hide (HX13.out.trans hx14)
                      clear hb14 hx14 p0 p1 p2 pz m0 m1 mz
                      go_wp2_with fail
                      go_roundw
                      case rel => exact HSM.out _ HX14.out
                      case measure => simp [intOf]; omega
                    · have hcb : (cst == 0) = false := by simpa using hc0
                      have hrx2 := HRX.out (by omega)
                      have HRX2 := hide hrx2
                      have hgv3 : 0 ≤ A.g v ∧ A.g v ≤ 1000000000000 := HGB.out v (by have := HST.out; omega)
                      have k3 : IntKind.u64.wrap (A.g v + cst) = A.g v + cst := by rw [IntKind.wrap_u64]; omega
                      have ju : (u : Int) < (n : Int) := by omega
                      have jv : (v : Int) < (n : Int) := by have := HVN.out; omega
                      clear hrx2 HRX hc0 hci
                      go_wp2_with fail
                      refine (HCX.out _ (by (with_reducible (repeat' (first | exact Ext.refl _ | assumption | refine Ext.drew ?_ | refine Ext.drewN ?_ _ | refine Ext.alloc ?_ _ | refine Ext.setCell ?_ ?_ _ | refine Ext.trans ?_ (by assumption)))); all_goals (first | (simp; done) | (simp; omega)))).mono ?_
                      rintro e w14 ⟨rfl, hb14⟩
                      have hx14 : Ext w13 w14 := (by (with_reducible (repeat' (first | exact Ext.refl _ | assumption | refine Ext.drew ?_ | refine Ext.drewN ?_ _ | refine Ext.alloc ?_ _ | refine Ext.setCell ?_ ?_ _ | refine Ext.trans ?_ (by assumption)))); all_goals (first | (simp; done) | (simp; omega)))
                      have HX14 := hide hx14
                      have B14 := hide (Blk.ext B13.out hx14)
                      have M14 := hide (Blk.ext M13.out hx14)
                      have R14 := hide (R11.out.ext (HX13.out.trans hx14))
                      have gv14 := (R14.out.g.cell HVN.out).1
                      rw [HG2.out] at gv14
                      have zg14 := R14.out.lt.2.1.2
                      clear hb14 p0 p1 p2 pz m0 m1 mz hx14
                      have p0 := B14.out.at 0 rfl; have p1 := B14.out.at 1 rfl; have p2 := B14.out.at 2 rfl; have pz := B14.out.lt
                      have m0 := M14.out.at 0 rfl; have m1 := M14.out.at 1 rfl; have mz := M14.out.lt
                      go_wp2_with fail
                      refine seqH_start (S := (fun W => (∀ b o, b < w14.heap.size → W.cell? ⟨b, o, none⟩ = w14.cell? ⟨b, o, none⟩) ∧ Ext w14 W)) [(0, true), (1, true), (2, true), (3, true), (4, true), (5, true), (6, false), (7, true), (8, true)] (by kernel_rfl) (by kernel_rfl) (by kernel_rfl) (by decide) (fun _ _ d _ _ h => by cases d <;> exact h) (by first | with_reducible exact pr_start _ | exact pr_of (by (with_reducible (repeat' (first | exact Ext.refl _ | assumption | refine Ext.drew ?_ | refine Ext.drewN ?_ _ | refine Ext.alloc ?_ _ | refine Ext.setCell ?_ ?_ _ | refine Ext.trans ?_ (by assumption)))); all_goals (first | (simp; done) | (simp; omega)))) (fun hHeld => ?_)
                      iterate 6 (apply SeqH.free; (· (simp only [List.getElem?_toArray, List.getElem?_cons_succ, List.getElem?_cons_zero]; rfl)); (· first | exact Or.inr ⟨by rfl, rfl⟩ | (refine Or.inl ⟨by rfl, ?_⟩; intro w hSw; (try dsimp only at hSw); go_simp; try with_reducible rfl)); try simp only [Act.put, List.setIfInBounds_toArray, List.set_cons_zero, List.set_cons_succ])
                      (apply SeqH.step; (· (simp only [List.getElem?_toArray, List.getElem?_cons_succ, List.getElem?_cons_zero]; rfl)); intro K hK; go_simp; refine (HCX.out _ (HX14.out.trans (by (with_reducible (repeat' (first | exact Ext.refl _ | assumption | refine Ext.drew ?_ | refine Ext.drewN ?_ _ | refine Ext.alloc ?_ _ | refine Ext.setCell ?_ ?_ _ | refine Ext.trans ?_ (by assumption)))); all_goals (first | (simp; done) | (simp; omega))))).mono ?_; rintro e w15 ⟨rfl, hb15⟩; go_wp2_with fail; refine hK.out _ _ (pr_of (by (with_reducible (repeat' (first | exact Ext.refl _ | assumption | refine Ext.drew ?_ | refine Ext.drewN ?_ _ | refine Ext.alloc ?_ _ | refine Ext.setCell ?_ ?_ _ | refine Ext.trans ?_ (by assumption)))); all_goals (first | (simp; done) | (simp; omega)))) (fun hHeld => ?_); clear hK K; try simp only [Act.put, List.setIfInBounds_toArray, List.set_cons_zero, List.set_cons_succ])
                      iterate 2 (apply SeqH.free; (· (simp only [List.getElem?_toArray, List.getElem?_cons_succ, List.getElem?_cons_zero]; rfl)); (· first | exact Or.inr ⟨by rfl, rfl⟩ | (refine Or.inl ⟨by rfl, ?_⟩; intro w hSw; (try dsimp only at hSw); go_simp; try with_reducible rfl)); try simp only [Act.put, List.setIfInBounds_toArray, List.set_cons_zero, List.set_cons_succ])
                      refine SeqH.done ?_
                      have hx15 := hHeld.2
                      have HX15 := hide ((HX13.out.trans HX14.out).trans hx15)
                      have R15 := hide (R11.out.ext HX15.out)
                      have z15 := R15.out.lt
                      have z0 := z15.1.2
                      have z1 := z15.2.1.2
                      have z2 := z15.2.2.2
                      have s0 := (R15.out.st.cell HUN.out).1
                      have s1 := (R15.out.st.cell HUN.out).2
                      have g0 := (R15.out.g.cell HUN.out).1
                      have g1 := (R15.out.g.cell HUN.out).2
                      have c0 := (R15.out.came.cell HUN.out).1
                      have c1' := (R15.out.came.cell HUN.out).2
                      have n0 := HNE.out.1
                      have n1 := HNE.out.2.1
                      have n2 := HNE.out.2.2
                      clear hHeld hb15 hx15 p0 p1 p2 pz m0 m1 mz gv14 zg14 z15
                      have TAKE : Hid (A2.takes u (A.g v + cst) → ∃ (k' : Nat) (A3 : AS), k' ≤ 4 ∧ Value.int .i64 ((k : Int) + 1) = .int .i64 k' ∧ A3 = rxs G v (A.settle v) ((nbC (openB l W 0 0 W H) X Y k').map (idxN W)) ∧ A3.st v = 2 ∧ A3.g v = A.g v ∧ Rows3 (((w15.setCell ⟨gs, u, none⟩ (.int .i64 1)).setCell ⟨gg, u, none⟩ (.int .u64 (A.g v + cst))).setCell ⟨gc, u, none⟩ (.int .i64 v)) (w.heap.size + 4) gs gg gc n A3 ∧ Touch (fun k => k = gs ∨ k = gg ∨ k = gc) w8 (((w15.setCell ⟨gs, u, none⟩ (.int .i64 1)).setCell ⟨gg, u, none⟩ (.int .u64 (A.g v + cst))).setCell ⟨gc, u, none⟩ (.int .i64 v))) := hide (fun ht => by
                        have he : rx G v A2 u = A2.put u (A.g v + cst) v := by
                          unfold rx
                          rw [HG2.out, HGC.out, if_pos ht]
                        have hne : v ≠ u := fun e => by
                          have h2 := HS2.out
                          rw [e] at h2
                          rcases ht with h | h <;> omega
                        refine ⟨k + 1, A2.put u (A.g v + cst) v, hk4, by go_num, by rw [HRX2.out, he], ?_, ?_, R15.out.put HUN.out _ _, ?_⟩
                        · show updN A2.st u 1 v = 2
                          rw [updN_ne _ _ hne]; exact HS2.out
                        · show updI A2.g u _ v = A.g v
                          rw [updI_ne _ _ hne]; exact HG2.out
                        · exact (((TD11.out.trans (Touch.of_ext HX15.out)).setCell (p := ⟨gs, u, none⟩) (.inl (.inl rfl)) _).setCell (p := ⟨gg, u, none⟩) (.inl (.inr (.inl rfl))) _).setCell (p := ⟨gc, u, none⟩) (.inl (.inr (.inr rfl))) _)
                      have NOT : Hid (¬ A2.takes u (A.g v + cst) → rxs G v (A.settle v) ((nbC (openB l W 0 0 W H) X Y (k + 1)).map (idxN W)) = A2) := hide (fun ht => by
                        rw [HRX2.out]
                        unfold rx
                        rw [HG2.out, HGC.out, if_neg ht])
                      by_cases h0 : A2.st u = 0
                      · rw [h0] at s0
                        have TK := hide (TAKE.out (.inl h0))
                        clear h0 TAKE NOT END0
                        go_wp2_with fail
                        go_roundw
                        case rel => exact TK.out
                        case measure => simp [intOf]; omega
                      · by_cases h1 : A2.st u = 1
                        · rw [h1] at s0
                          by_cases hl : A.g v + cst < A2.g u
                          · have hlb : decide (A.g v + cst < A2.g u) = true := by simpa using hl
                            have TK := hide (TAKE.out (.inr ⟨h1, hl⟩))
                            clear h0 h1 hl TAKE NOT END0
                            go_wp2_with fail
                            go_roundw
                            case rel => exact TK.out
                            case measure => simp [intOf]; omega
                          · have hlb : decide (A.g v + cst < A2.g u) = false := by simpa using hl
                            have HSM := hide (END0.out (NOT.out (fun h => h.elim h0 (fun h => hl h.2))))
                            clear h0 h1 hl TAKE NOT END0
                            go_wp2_with fail
                            go_roundw
                            case rel => exact HSM.out _ HX15.out
                            case measure => simp [intOf]; omega
                        · have e0 : ((A2.st u : Int) == 0) = false := by simp; omega
                          have e1 : ((A2.st u : Int) == 1) = false := by simp; omega
                          have HSM := hide (END0.out (NOT.out (fun h => h.elim h0 (fun h => h1 h.1))))
                          generalize (A2.st u : Int) = su at *
                          clear h0 h1 TAKE NOT END0
                          go_wp2_with fail
                          go_roundw
                          case rel => exact HSM.out _ HX15.out
                          case measure => simp [intOf]; omega
                · obtain rfl : k = 4 := by omega
                  have hfull : A2 = stepA G A v := by
                    rw [HA2.out, ← HADJV.out]
                    rfl
                  have IF := hide (sinv_step II.out FF.out (by rw [HGN.out]; omega) HGU.out HADJ.out HB.out)
                  have HAF : Hid (∀ p cc k er, ARun G W hh t b (stepA G A v) p cc k er → ARun G W hh t b (start0 s) p cc k er) := hide (fun p cc k er r => HA.out _ _ _ _ (ARun.next HB.out HBUD.out HVNT.out r))
                  have hcn2 : (stepA G A v).cnt = A.cnt + 1 := stepA_c G A v
                  have HCN2 := hide hcn2
                  have hopn := II.out.opens HST.out
                  rw [HGN.out] at hopn
                  clear hcn2
                  go_wp2_with fail
                  go_roundw
                  case rel => exact ⟨stepA G A v, by rw [HCN2.out], IF.out, by rw [← hfull]; exact RR.out, HAF.out, TT.out⟩
                  case measure => simp [intOf]; omega
end Go.Proofs.Ytkonojjillcfiaa

/- The reference's Find in one contract. -/
namespace Go.Proofs.Ytkonojjillcfiaa
open Go.RowKit

theorem rFind_uni {w : World} {W H : Int} {a : Option Addr} {l : List Int} (c : Nat) {x y tx ty b : Int} (he : findE W H l.length x y tx ty b = 0) (hr : Row16 w a l) (hu : U16s l) :
    Calls Try.prog 31 #[.agg #[.int .i64 W, .int .i64 H, .slice a l.length c], .agg #[.int .i64 x, .int .i64 y], .agg #[.int .i64 tx, .int .i64 ty], .int .i64 b] w fun e w' => Ext w w' ∧
      ∃ (p : List Nat) (cc k er : Int) (v : Value), Srch W H l x y tx ty b p cc k er ∧ e = .returned (.tuple #[.agg #[v, .int .u64 cc, .int .i64 k], .int .i64 er]) ∧ Reads cellE w' v (p.map (cellV W)) := by
  have L := landP_of (whole_of he).1 hu
  obtain ⟨e1, e2, e3, e4⟩ := findE_ok.1 he
  have i1 := inB_true.1 e2
  have i2 := inB_true.1 e3
  have hs := L.idx_lt (x := x) (y := y) (by omega)
  have ht := L.idx_lt (x := tx) (y := ty) (by omega)
  by_cases ho : (mapNet (landP_of (whole_of he).1 hu)).op (idxN W (x, y)) = true ∧ (mapNet (landP_of (whole_of he).1 hu)).op (idxN W (tx, ty)) = true
  · refine (rFind_open c he hr hu ho).mono ?_
    rintro e w' ⟨hx, p, cc, k, er, v, a1, a2, a3⟩
    exact ⟨hx, p, cc, k, er, v, .inr ⟨he, _, .inl ⟨ho.1, ho.2, a1⟩⟩, a2, a3⟩
  · refine (rFind_wall c he hr hu ?_).mono ?_
    · rw [cost_idx, cost_idx]
      have c1 := costI_bd hu W (x, y)
      have c2 := costI_bd hu W (tx, ty)
      rw [cost_idx] at c1 c2
      by_cases h : 0 < l.getD (idxN W (x, y)) 0
      · right
        have : ¬ 0 < l.getD (idxN W (tx, ty)) 0 := fun k => ho ⟨(op_iff L _).2 ⟨hs, h⟩, (op_iff L _).2 ⟨ht, k⟩⟩
        omega
      · left; omega
    · rintro e w' ⟨h1, hx⟩
      exact ⟨hx, [], 0, 0, 22, _, .inr ⟨he, L, .inr ⟨ho, rfl, rfl, rfl, rfl⟩⟩, h1, (Own.nil cellE _ 0 49).reads⟩
end Go.Proofs.Ytkonojjillcfiaa

/- The walk of StarFinds. -/
namespace Go.Proofs.Ytkonojjillcfiaa
open Go.RowKit

set_option maxRecDepth 100000 in
theorem sf_far {w : World} (W H : Int) (a : Option Addr) (n c : Nat) (x y tx ty b : Int) (hn : ¬ (n : Int) ≤ 150) :
    Calls Try.prog 5 #[.agg #[.int .i64 W, .int .i64 H, .slice a n c], .agg #[.int .i64 x, .int .i64 y, .int .i64 tx, .int .i64 ty, .int .i64 b]] w fun e w' => e = .returned (.bool true) ∧ Ext w w' := by
  have HS := hide (fun w' => small10_any W H a n c w')
  rw [show decide ((n : Int) ≤ 150) = false by simpa using hn] at HS
  clear hn
  go_enter Try.func5, Try.ntmps5
  go_wp2_with (first
    | (go_at_call 27; refine (HS.out _).mono ?_; rintro e w1 ⟨rfl, hb1⟩; obtain ⟨hc1, hf1⟩ := hb1.cells; have hz1 := hb1.size; (repeat (first | rw [World.size_alloc] at hz1 | rw [World.size_drew] at hz1)))
    | (go_at_call 28; refine (awake10_any _).mono ?_; rintro e w2 ⟨rfl, hb2⟩))
  go_ret
  exact ⟨rfl, (by (with_reducible (repeat' (first | exact Ext.refl _ | assumption | refine Ext.drew ?_ | refine Ext.drewN ?_ _ | refine Ext.alloc ?_ _ | refine Ext.setCell ?_ ?_ _ | refine Ext.trans ?_ (by assumption)))); all_goals (first | (simp; done) | (simp; omega)))⟩

set_option maxRecDepth 100000 in
theorem sf_bad {w : World} (W H : Int) (a : Option Addr) (n c : Nat) (x y tx ty b : Int) (hn : (n : Int) ≤ 150) (he : findE W H n x y tx ty b ≠ 0) :
    Calls Try.prog 5 #[.agg #[.int .i64 W, .int .i64 H, .slice a n c], .agg #[.int .i64 x, .int .i64 y, .int .i64 tx, .int .i64 ty, .int .i64 b]] w fun e w' => e = .returned (.bool true) ∧ Ext w w' := by
  have HS := hide (fun w' => small10_any W H a n c w')
  rw [show decide ((n : Int) ≤ 150) = true by simpa using hn] at HS
  have H1 := hide (fun (w' : World) => sFind_bad (w := w') W H a n c x y tx ty b he)
  have H2 := hide (fun (w' : World) => r10May_any W H a n c x y tx ty b w')
  generalize findE W H n x y tx ty b = e1 at *
  have hb3 : (e1 != 0) = true := by simpa using he
  have hb4 : (e1 == e1) = true := by simp
  clear he hn
  go_enter Try.func5, Try.ntmps5
  go_wp2_with (go_at_call 27; refine (HS.out _).mono ?_; rintro e w1 ⟨rfl, hb1⟩; obtain ⟨hc1, hf1⟩ := hb1.cells; have hz1 := hb1.size; (repeat (first | rw [World.size_alloc] at hz1 | rw [World.size_drew] at hz1)); have z1_0 : w.heap.size < w1.heap.size := (by omega); have z1_1 : w.heap.size + 1 < w1.heap.size := (by omega))
  refine (H1.out _).mono ?_
  rintro e w2 ⟨rfl, hb2⟩
  obtain ⟨hc2, hf2⟩ := hb2.cells; have hz2 := hb2.size; (repeat (first | rw [World.size_alloc] at hz2 | rw [World.size_drew] at hz2)); have z2_0 : w.heap.size < w2.heap.size := (by omega); have z2_1 : w.heap.size + 1 < w2.heap.size := (by omega)
  go_wp2_with fail
  refine (H2.out _).mono ?_
  rintro e w3 ⟨rfl, hb3⟩
  obtain ⟨hc3, hf3⟩ := hb3.cells; have hz3 := hb3.size; (repeat (first | rw [World.size_alloc] at hz3 | rw [World.size_drew] at hz3)); have z3_0 : w.heap.size < w3.heap.size := (by omega); have z3_1 : w.heap.size + 1 < w3.heap.size := (by omega); have z3_2 : w2.heap.size < w3.heap.size := (by omega)
  go_wp2_with (go_at_call 28; refine (awake10_any _).mono ?_; rintro e w6 ⟨rfl, hb6⟩)
  go_ret
  exact ⟨rfl, (by (with_reducible (repeat' (first | exact Ext.refl _ | assumption | refine Ext.drew ?_ | refine Ext.drewN ?_ _ | refine Ext.alloc ?_ _ | refine Ext.setCell ?_ ?_ _ | refine Ext.trans ?_ (by assumption)))); all_goals (first | (simp; done) | (simp; omega)))⟩

set_option maxRecDepth 100000 in
theorem sf_ok {w : World} {W H : Int} {a : Option Addr} {l : List Int} (c : Nat) (x y tx ty b : Int) (hr : Row16 w a l) (hu : U16s l) (hn : (l.length : Int) ≤ 150) (he : findE W H l.length x y tx ty b = 0) :
    Calls Try.prog 5 #[.agg #[.int .i64 W, .int .i64 H, .slice a l.length c], .agg #[.int .i64 x, .int .i64 y, .int .i64 tx, .int .i64 ty, .int .i64 b]] w fun e w' => e = .returned (.bool true) ∧ Ext w w' := by
  have HS := hide (fun w' => small10_any W H a l.length c w')
  rw [show decide ((l.length : Int) ≤ 150) = true by simpa using hn] at HS
  have H1 := hide (fun (w' : World) (hx : Ext w w') => sFind_uni (w := w') W H a c x y tx ty b (hr.ext hx) hu)
  have H2 := hide (fun (w' : World) => r10May_any W H a l.length c x y tx ty b w')
  rw [he] at H2
  have H3 := hide (fun (w' : World) (hx : Ext w w') => rFind_uni (w := w') c he (hr.ext hx) hu)
  have HP := hide (fun (p : List Nat) (cc k er : Int) (h : Srch W H l x y tx ty b p cc k er) => (by
    rcases h with ⟨n1, _⟩ | ⟨_, L, s⟩
    · exact absurd he n1
    · have := (s.path (netOk L _)).1
      have : (mapNet L).n = l.length := rfl
      omega : p.length ≤ 150))
  obtain ⟨n, hnn⟩ : ∃ n, l.length = n := ⟨_, rfl⟩
  rw [hnn] at HS H1 H2 H3 ⊢
  clear he hn hr hu hnn
  go_enter Try.func5, Try.ntmps5
  go_wp2_with (go_at_call 27; refine (HS.out _).mono ?_; rintro e w1 ⟨rfl, hb1⟩; obtain ⟨hc1, hf1⟩ := hb1.cells; have hz1 := hb1.size; (repeat (first | rw [World.size_alloc] at hz1 | rw [World.size_drew] at hz1)); have z1_0 : w.heap.size < w1.heap.size := (by omega); have z1_1 : w.heap.size + 1 < w1.heap.size := (by omega))
  refine (H1.out _ (by (with_reducible (repeat' (first | exact Ext.refl _ | assumption | refine Ext.drew ?_ | refine Ext.drewN ?_ _ | refine Ext.alloc ?_ _ | refine Ext.setCell ?_ ?_ _ | refine Ext.trans ?_ (by assumption)))); all_goals (first | (simp; done) | (simp; omega)))).mono ?_
  rintro e w2 ⟨hb2, p, cc, k, er, v, hs, rfl, ho⟩
  obtain ⟨hc2, hf2⟩ := hb2.cells; have hz2 := hb2.size; (repeat (first | rw [World.size_alloc] at hz2 | rw [World.size_drew] at hz2)); have z2_0 : w.heap.size < w2.heap.size := (by omega); have z2_1 : w.heap.size + 1 < w2.heap.size := (by omega)
  have HSR := hide hs
  have HO := hide ho.reads
  obtain ⟨ra, rc, hrv⟩ := ho.slice
  rw [List.length_map] at hrv
  subst hrv
  have HPL := hide (HP.out _ _ _ _ hs)
  clear hs ho
  go_wp2_with fail
  refine (H2.out _).mono ?_
  rintro e w3 ⟨rfl, hb3⟩
  obtain ⟨hc3, hf3⟩ := hb3.cells; have hz3 := hb3.size; (repeat (first | rw [World.size_alloc] at hz3 | rw [World.size_drew] at hz3)); have z3_0 : w.heap.size < w3.heap.size := (by omega); have z3_1 : w.heap.size + 1 < w3.heap.size := (by omega); have z3_2 : w2.heap.size < w3.heap.size := (by omega)
  have hx23 : Ext w2 w3 := (by (with_reducible (repeat' (first | exact Ext.refl _ | assumption | refine Ext.drew ?_ | refine Ext.drewN ?_ _ | refine Ext.alloc ?_ _ | refine Ext.setCell ?_ ?_ _ | refine Ext.trans ?_ (by assumption)))); all_goals (first | (simp; done) | (simp; omega)))
  have HX23 := hide hx23
  clear hx23
  go_wp2_with fail
  refine (H3.out _ (by (with_reducible (repeat' (first | exact Ext.refl _ | assumption | refine Ext.drew ?_ | refine Ext.drewN ?_ _ | refine Ext.alloc ?_ _ | refine Ext.setCell ?_ ?_ _ | refine Ext.trans ?_ (by assumption)))); all_goals (first | (simp; done) | (simp; omega)))).mono ?_
  rintro e w4 ⟨hb4, p2, cc2, k2, er2, v2, hs2, rfl, hv2⟩
  obtain ⟨rfl, rfl, rfl, rfl⟩ := HSR.out.one hs2
  obtain ⟨hc4, hf4⟩ := hb4.cells; have hz4 := hb4.size; (repeat (first | rw [World.size_alloc] at hz4 | rw [World.size_drew] at hz4)); have z4_0 : w.heap.size < w4.heap.size := (by omega); have z4_1 : w.heap.size + 1 < w4.heap.size := (by omega); have z4_2 : w2.heap.size < w4.heap.size := (by omega)
  have HV2 := hide hv2
  obtain ⟨sa, sc, hsv⟩ := hv2.slice
  rw [List.length_map] at hsv
  subst hsv
  have HO4 := hide (HO.out.ext (HX23.out.trans hb4))
  have e1 : (er == er) = true := by simp
  have e2 : (cc == cc) = true := by simp
  have e3 : (k == k) = true := by simp
  clear hs2 hv2
  go_wp2_with fail
  refine (cells10_any (l := p.map (cellV W)) (by rw [List.length_map]; have := HPL.out; omega) (HO4.out.ext (by (with_reducible (repeat' (first | exact Ext.refl _ | assumption | refine Ext.drew ?_ | refine Ext.drewN ?_ _ | refine Ext.alloc ?_ _ | refine Ext.setCell ?_ ?_ _ | refine Ext.trans ?_ (by assumption)))); all_goals (first | (simp; done) | (simp; omega)))) (HV2.out.ext (by (with_reducible (repeat' (first | exact Ext.refl _ | assumption | refine Ext.drew ?_ | refine Ext.drewN ?_ _ | refine Ext.alloc ?_ _ | refine Ext.setCell ?_ ?_ _ | refine Ext.trans ?_ (by assumption)))); all_goals (first | (simp; done) | (simp; omega))))).mono ?_
  rintro e w5 ⟨rfl, hb5⟩
  obtain ⟨hc5, hf5⟩ := hb5.cells; have hz5 := hb5.size; (repeat (first | rw [World.size_alloc] at hz5 | rw [World.size_drew] at hz5)); have z5_0 : w2.heap.size < w5.heap.size := (by omega); have z5_1 : w4.heap.size < w5.heap.size := (by omega)
  go_wp2_with (go_at_call 28; refine (awake10_any _).mono ?_; rintro e w6 ⟨rfl, hb6⟩)
  go_ret
  exact ⟨rfl, (by (with_reducible (repeat' (first | exact Ext.refl _ | assumption | refine Ext.drew ?_ | refine Ext.drewN ?_ _ | refine Ext.alloc ?_ _ | refine Ext.setCell ?_ ?_ _ | refine Ext.trans ?_ (by assumption)))); all_goals (first | (simp; done) | (simp; omega)))⟩

theorem starFinds_any {w : World} (W H : Int) (a : Option Addr) (l : List Int) (c : Nat) (x y tx ty b : Int) (hr : Row16 w a l) (hu : U16s l) :
    Calls Try.prog 5 #[.agg #[.int .i64 W, .int .i64 H, .slice a l.length c], .agg #[.int .i64 x, .int .i64 y, .int .i64 tx, .int .i64 ty, .int .i64 b]] w fun e w' => e = .returned (.bool true) ∧ Ext w w' := by
  by_cases hn : (l.length : Int) ≤ 150
  · by_cases h1 : findE W H l.length x y tx ty b = 0
    · exact sf_ok c x y tx ty b hr hu hn h1
    · exact sf_bad W H a l.length c x y tx ty b hn h1
  · exact sf_far W H a l.length c x y tx ty b hn
end Go.Proofs.Ytkonojjillcfiaa
