/- The law StarOwn, as it is said. -/
import Derived.Test.YtkonojjillcfiaaStarBudgetP13
import Derived.Test.YtkonojjillcfiaaStarFindsP01
import Derived.Test.YtkonojjillcfiaaStarBudgetP14
set_option linter.all false
set_option linter.unusedVariables false
set_option linter.unusedSimpArgs false
/- The walk of StarOwn. -/
namespace Go.Proofs.Ytkonojjillcfiaa
open Go.RowKit

set_option maxRecDepth 100000 in
theorem so_far {w : World} (W H : Int) (a : Option Addr) (n c : Nat) (x y tx ty b : Int) (hn : ¬ (n : Int) ≤ 150) :
    Calls Try.prog 7 #[.agg #[.int .i64 W, .int .i64 H, .slice a n c], .agg #[.int .i64 x, .int .i64 y, .int .i64 tx, .int .i64 ty, .int .i64 b]] w fun e w' => e = .returned (.bool true) ∧ Ext w w' := by
  have HS := hide (fun w' => small10_any W H a n c w')
  rw [show decide ((n : Int) ≤ 150) = false by simpa using hn] at HS
  clear hn
  go_enter Try.func7, Try.ntmps7
  go_wp2_with (first
    | (go_at_call 27; refine (HS.out _).mono ?_; rintro e w1 ⟨rfl, hb1⟩; obtain ⟨hc1, hf1⟩ := hb1.cells; have hz1 := hb1.size; (repeat (first | rw [World.size_alloc] at hz1 | rw [World.size_drew] at hz1)))
    | (go_at_call 28; refine (awake10_any _).mono ?_; rintro e w2 ⟨rfl, hb2⟩))
  go_ret
  exact ⟨rfl, (by (with_reducible (repeat' (first | exact Ext.refl _ | assumption | refine Ext.drew ?_ | refine Ext.drewN ?_ _ | refine Ext.alloc ?_ _ | refine Ext.setCell ?_ ?_ _ | refine Ext.trans ?_ (by assumption)))); all_goals (first | (simp; done) | (simp; omega)))⟩

/-- A store of a cell into a row. -/
theorem cell_turn {w : World} {base g n c : Nat} {l : List Cell} (h : Own cellE w base 49 (.slice (some ⟨g, 0, none⟩) n c) l) {i : Nat} (hi : i < l.length) (p : Cell) :
    Own cellE ((w.setCell ⟨g, i * 2, none⟩ (.int .i64 p.1)).setCell ⟨g, i * 2 + 1, none⟩ (.int .i64 p.2)) base 49 (.slice (some ⟨g, 0, none⟩) n c) (l.set i p) := Own.turn (E := cellE) h hi p
theorem cell_frozen {w : World} {base g n c : Nat} {l : List Cell} (h : Own cellE w base 49 (.slice (some ⟨g, 0, none⟩) n c) l) (o : Nat) : w.frozen? ⟨g, o, none⟩ = false := by
  obtain ⟨a, c', e⟩ := h.slice
  have en : n = l.length := by injection e
  subst en
  have h' : w.ownsRow base 49 2 (.slice (some ⟨g, 0, none⟩) l.length c) l.length (l.flatMap cellE.cells) := h
  exact h'.frozenAt _

theorem own_pos10 {w : World} {base : Nat} {v : Value} {l : List Cell} (h : Own cellE w base 49 v l) (hl : 0 < l.length) : ∃ g c, v = .slice (some ⟨g, 0, none⟩) l.length c ∧ base ≤ g ∧ g < w.heap.size := by
  rcases h.2 with ⟨_, h0⟩ | ⟨g, cap, cur, hv, _⟩
  · omega
  · subst hv
    have := own_lt h (k := g) rfl
    exact ⟨g, cap, rfl, this.1, this.2⟩

set_option maxRecDepth 100000 in
set_option maxHeartbeats 1000000 in
theorem so_near {w : World} {W H : Int} {a : Option Addr} {l : List Int} (c : Nat) (x y tx ty b : Int) (hr : Row16 w a l) (hu : U16s l) (hn : (l.length : Int) ≤ 150) :
    Calls Try.prog 7 #[.agg #[.int .i64 W, .int .i64 H, .slice a l.length c], .agg #[.int .i64 x, .int .i64 y, .int .i64 tx, .int .i64 ty, .int .i64 b]] w fun e w' => e = .returned (.bool true) ∧ Ext w w' := by
  have HS := hide (fun w' => small10_any W H a l.length c w')
  rw [show decide ((l.length : Int) ≤ 150) = true by simpa using hn] at HS
  have H1 := hide (fun (w' : World) (x y tx ty : Int) (hx : Ext w w') => sFind_uni (w := w') W H a c x y tx ty (l.length : Int) (hr.ext hx) hu)
  have HP := hide (fun (p : List Nat) (b cc k er : Int) (h : Srch W H l x y tx ty b p cc k er) => (by
    rcases h with ⟨n1, rfl, _⟩ | ⟨_, L, s⟩
    · simp
    · have := (s.path (netOk L _)).1
      have : (mapNet L).n = l.length := rfl
      omega : p.length ≤ 150))
  have HR := hide hr
  have HU := hide hu
  obtain ⟨n, hnn⟩ : ∃ n, l.length = n := ⟨_, rfl⟩
  have HN := hide hnn
  rw [hnn] at HS H1 ⊢
  clear hn hr hu hnn
  go_enter Try.func7, Try.ntmps7
  go_wp2_with (go_at_call 27; refine (HS.out _).mono ?_; rintro e w1 ⟨rfl, hb1⟩; obtain ⟨hc1, hf1⟩ := hb1.cells; have hz1 := hb1.size; (repeat (first | rw [World.size_alloc] at hz1 | rw [World.size_drew] at hz1)); have z1_0 : w.heap.size < w1.heap.size := (by omega); have z1_1 : w.heap.size + 1 < w1.heap.size := (by omega))
  have BF1 : Hid (Blk w1 (w.heap.size) 26 #[.int .i64 W, .int .i64 H, .slice a n c]) := hide (by refine Blk.ext ?_ hb1; (repeat' (first | exact Blk.new_ (by simp) | refine Blk.drew ?_ | refine Blk.over ?_)))
  have BE1 : Hid (Blk w1 (w.heap.size + 1) 58 #[.int .i64 x, .int .i64 y, .int .i64 tx, .int .i64 ty, .int .i64 b]) := hide (by refine Blk.ext ?_ hb1; (repeat' (first | exact Blk.new_ (by simp) | refine Blk.drew ?_ | refine Blk.over ?_)))
  refine (H1.out _ x y tx ty (by (with_reducible (repeat' (first | exact Ext.refl _ | assumption | refine Ext.drew ?_ | refine Ext.drewN ?_ _ | refine Ext.alloc ?_ _ | refine Ext.setCell ?_ ?_ _ | refine Ext.trans ?_ (by assumption)))); all_goals (first | (simp; done) | (simp; omega)))).mono ?_
  rintro e w2 ⟨hb2, p1, c1, k1, e1, v1, hs1, rfl, ho1⟩
  obtain ⟨hc2, hf2⟩ := hb2.cells; have hz2 := hb2.size; (repeat (first | rw [World.size_alloc] at hz2 | rw [World.size_drew] at hz2)); have z2_0 : w.heap.size < w2.heap.size := (by omega); have z2_1 : w.heap.size + 1 < w2.heap.size := (by omega)
  have HSR := hide hs1
  have HO1 := hide ho1
  obtain ⟨ra, rc, hrv⟩ := ho1.slice
  rw [List.length_map] at hrv
  subst hrv
  have HPL := hide (HP.out _ _ _ _ _ hs1)
  clear hs1 ho1
  go_wp2_with fail
  refine (H1.out _ tx ty x y (by (with_reducible (repeat' (first | exact Ext.refl _ | assumption | refine Ext.drew ?_ | refine Ext.drewN ?_ _ | refine Ext.alloc ?_ _ | refine Ext.setCell ?_ ?_ _ | refine Ext.trans ?_ (by assumption)))); all_goals (first | (simp; done) | (simp; omega)))).mono ?_
  rintro e w3 ⟨hb3, p2, c2, k2, e2, v2, hs2, rfl, ho2⟩
  obtain ⟨hc3, hf3⟩ := hb3.cells; have hz3 := hb3.size; (repeat (first | rw [World.size_alloc] at hz3 | rw [World.size_drew] at hz3)); have z3_0 : w.heap.size < w3.heap.size := (by omega); have z3_1 : w.heap.size + 1 < w3.heap.size := (by omega); have z3_2 : w2.heap.size < w3.heap.size := (by omega)
  have hL := srch_own (by rw [HN.out]; exact HSR.out) (by rw [HN.out]; exact hs2)
  obtain ⟨va, vc, hv2⟩ := ho2.slice
  rw [List.length_map] at hv2
  subst hv2
  have hx23 : Ext w2 w3 := (by (with_reducible (repeat' (first | exact Ext.refl _ | assumption | refine Ext.drew ?_ | refine Ext.drewN ?_ _ | refine Ext.alloc ?_ _ | refine Ext.setCell ?_ ?_ _ | refine Ext.trans ?_ (by assumption)))); all_goals (first | (simp; done) | (simp; omega)))
  have HO13 := hide (HO1.out.ext hx23)
  have HX3 := hide (show Ext w w3 from (by (with_reducible (repeat' (first | exact Ext.refl _ | assumption | refine Ext.drew ?_ | refine Ext.drewN ?_ _ | refine Ext.alloc ?_ _ | refine Ext.setCell ?_ ?_ _ | refine Ext.trans ?_ (by assumption)))); all_goals (first | (simp; done) | (simp; omega))))
  have hx13 : Ext w1 w3 := (by (with_reducible (repeat' (first | exact Ext.refl _ | assumption | refine Ext.drew ?_ | refine Ext.drewN ?_ _ | refine Ext.alloc ?_ _ | refine Ext.setCell ?_ ?_ _ | refine Ext.trans ?_ (by assumption)))); all_goals (first | (simp; done) | (simp; omega)))
  have BF3 := hide (Blk.ext BF1.out hx13)
  have BE3 := hide (Blk.ext BE1.out hx13)
  have Y3 : Hid (Blk w3 (w2.heap.size) 61 #[.slice ra p1.length rc, .int .u64 c1, .int .i64 k1]) := hide (by refine Blk.ext ?_ hb3; (repeat' (first | exact Blk.new_ (by simp) | refine Blk.drew ?_ | refine Blk.over ?_)))
  clear hx13
  clear hs2 ho2 hx23
  obtain ⟨he, hL⟩ := hL
  subst he
  have f0 : (e1 != e1) = false := by simp
  rcases hL with ⟨g1, rfl, rfl⟩ | ⟨rfl, hp0, ix, it, L, hcc, bd1, bd2, bd3, bd4⟩
  · have f1 : (e1 != 0) = true := by simpa using g1
    simp only [List.length_nil]
    clear g1
    go_wp2_with (go_at_call 28; refine (awake10_any _).mono ?_; rintro e w6 ⟨rfl, hb6⟩)
    go_ret
    exact ⟨rfl, (by (with_reducible (repeat' (first | exact Ext.refl _ | assumption | refine Ext.drew ?_ | refine Ext.drewN ?_ _ | refine Ext.alloc ?_ _ | refine Ext.setCell ?_ ?_ _ | refine Ext.trans ?_ (by assumption)))); all_goals (first | (simp; done) | (simp; omega)))⟩
  · have i1 := inB_true.1 ix
    have i2 := inB_true.1 it
    have hl := L.len
    obtain ⟨ab, aoff, ha, hab, hca⟩ := cost_cell (HR.out.ext HX3.out) hl i1.2.2.2.2.1 i1.2.2.2.2.2.1 i1.2.2.2.2.2.2.1 i1.2.2.2.2.2.2.2
    obtain ⟨ab2, aoff2, ha2, hab2, hcb⟩ := cost_cell (HR.out.ext HX3.out) hl i2.2.2.2.2.1 i2.2.2.2.2.2.1 i2.2.2.2.2.2.2.1 i2.2.2.2.2.2.2.2
    subst ha
    injection ha2 with ha2
    injection ha2 with e1 e2 _
    subst e1 e2
    have s1 := L.idx_lt (x := x) (y := y) (by omega)
    have s2 := L.idx_lt (x := tx) (y := ty) (by omega)
    rw [HN.out] at s1 s2
    have d1 := idx_int (W := W) (x := x) (y := y) (by omega) (by omega) (by omega)
    have d2 := idx_int (W := W) (x := tx) (y := ty) (by omega) (by omega) (by omega)
    have b1 := costI_bd HU.out W (x, y)
    have b2 := costI_bd HU.out W (tx, ty)
    rw [cost_idx] at b1 b2 hca hcb
    have hca' : w3.cell? ⟨ab, aoff + idxN W (x, y), none⟩ = some (.int .u16 (l.getD (idxN W (x, y)) 0)) := hca
    have hcb' : w3.cell? ⟨ab, aoff + idxN W (tx, ty), none⟩ = some (.int .u16 (l.getD (idxN W (tx, ty)) 0)) := hcb
    have m1 := mul_bd (a := y) (b := W) (A := 256) (B := 256) (by omega) (by omega) (by omega) (by omega)
    have m2 := mul_bd (a := ty) (b := W) (A := 256) (B := 256) (by omega) (by omega) (by omega) (by omega)
    have k1' : IntKind.i64.wrap (y * W) = y * W := IntWalk.i64_in _ (by omega)
    have k2' : IntKind.i64.wrap (y * W + x) = ((idxN W (x, y) : Nat) : Int) := by rw [d1]; exact IntWalk.i64_in _ (by omega)
    have k3' : IntKind.i64.wrap (ty * W) = ty * W := IntWalk.i64_in _ (by omega)
    have k4' : IntKind.i64.wrap (ty * W + tx) = ((idxN W (tx, ty) : Nat) : Int) := by rw [d2]; exact IntWalk.i64_in _ (by omega)
    obtain ⟨s, hs⟩ : ∃ z, idxN W (x, y) = z := ⟨_, rfl⟩
    obtain ⟨t, ht⟩ : ∃ z, idxN W (tx, ty) = z := ⟨_, rfl⟩
    rw [hs] at hca' s1 k2' b1 hcc
    rw [ht] at hcb' s2 k4' b2 hcc
    generalize l.getD s 0 = ca at *
    generalize l.getD t 0 = cb at *
    have j1 : (s : Int) < (n : Int) := by omega
    have j2 : (t : Int) < (n : Int) := by omega
    have u1 : IntKind.u64.wrap ca = ca := by rw [IntKind.wrap_u64]; omega
    have u2 : IntKind.u64.wrap cb = cb := by rw [IntKind.wrap_u64]; omega
    have u3 : IntKind.u64.wrap (c1 + ca) = c1 + ca := by rw [IntKind.wrap_u64]; omega
    have u4 : IntKind.u64.wrap (c2 + cb) = c1 + ca := by rw [← hcc, IntKind.wrap_u64]; omega
    have u5 : ((c1 + ca) != (c1 + ca)) = false := by simp
    have HP0 := hide (List.length_pos_iff.2 hp0)
    obtain ⟨g, cg, hrg, hg1, hg2⟩ := own_pos10 HO13.out (by rw [List.length_map]; exact HP0.out)
    rw [List.length_map] at hrg
    injection hrg with hra _ hrc
    subst hra
    subst hrc
    have hgw : g < w2.heap.size := (own_lt HO1.out (k := g) rfl).2
    clear hca hcb d1 d2 m1 m2 hs ht hcc b1 b2 i1 i2 ix it hl hp0 L bd1 bd2 bd3 bd4 hc1 hf1 hc2 hf2 hc3 hf3
    have f0 := BF3.out.at 0 rfl; have f1 := BF3.out.at 1 rfl; have f2 := BF3.out.at 2 rfl; have fz := BF3.out.lt
    have g0 := BE3.out.at 0 rfl; have g1 := BE3.out.at 1 rfl; have g2 := BE3.out.at 2 rfl; have g3 := BE3.out.at 3 rfl; have g4 := BE3.out.at 4 rfl; have gz := BE3.out.lt
    have y0 := Y3.out.at 0 rfl; have y1 := Y3.out.at 1 rfl; have y2 := Y3.out.at 2 rfl; have yz := Y3.out.lt
    go_wp2_with fail
    obtain ⟨w4, hw4⟩ : ∃ w4, w4 = w3.alloc (.cells #[.slice va p2.length vc, .int .u64 c2, .int .i64 k2] 61) := ⟨_, rfl⟩
    have hx4 : Ext w3 w4 := by rw [hw4]; exact (Ext.refl _).alloc _
    have Z4 := hide (show Blk w4 w3.heap.size 61 #[.slice va p2.length vc, .int .u64 c2, .int .i64 k2] by rw [hw4]; exact Blk.new_ rfl)
    have Y4 := hide (Blk.ext Y3.out hx4)
    have BF4 := hide (Blk.ext BF3.out hx4)
    have BE4 := hide (Blk.ext BE3.out hx4)
    have O4 := hide (HO13.out.ext hx4)
    have r1 := (hx4.cell (p := ⟨ab, aoff + s, none⟩) hab).trans hca'
    have r2 := (hx4.cell (p := ⟨ab, aoff + t, none⟩) hab).trans hcb'
    have rz : ab < w4.heap.size := Nat.lt_of_lt_of_le hab hx4.size
    have HX4 := hide (HX3.out.trans hx4)
    have hz4 := hx4.size
    rw [← hw4]
    clear hw4 hx4 f0 f1 f2 fz g0 g1 g2 g3 g4 gz y0 y1 y2 yz hca' hcb' Y3 BF3 BE3 HO13 HX3 hb1 hb2 hb3 BF1 BE1
    have f0 := BF4.out.at 0 rfl; have f1 := BF4.out.at 1 rfl; have f2 := BF4.out.at 2 rfl; have fz := BF4.out.lt
    have g0 := BE4.out.at 0 rfl; have g1 := BE4.out.at 1 rfl; have g2 := BE4.out.at 2 rfl; have g3 := BE4.out.at 3 rfl; have g4 := BE4.out.at 4 rfl; have gz := BE4.out.lt
    have y0 := Y4.out.at 0 rfl; have y1 := Y4.out.at 1 rfl; have y2 := Y4.out.at 2 rfl; have yz := Y4.out.lt
    have z0 := Z4.out.at 0 rfl; have z1 := Z4.out.at 1 rfl; have z2 := Z4.out.at 2 rfl; have zz := Z4.out.lt
    have q1 : decide ((n : Int) ≤ (s : Int)) = false := by simp; omega
    have q2 : decide (n ≤ s) = false := by simp; omega
    have q3 : decide ((n : Int) ≤ (t : Int)) = false := by simp; omega
    have q4 : decide (n ≤ t) = false := by simp; omega
    have q5 : decide ((s : Int) < 0) = false := by simp
    have q6 : decide ((t : Int) < 0) = false := by simp
    refine seqH_start (S := (fun W => (∀ b o, b < w4.heap.size → W.cell? ⟨b, o, none⟩ = w4.cell? ⟨b, o, none⟩) ∧ Ext w4 W)) [(0, true), (1, true), (2, true), (3, true), (4, true), (5, true), (6, true), (7, true), (8, true), (9, true), (10, true), (11, true), (12, true), (13, true), (14, true), (15, true), (16, true), (17, true), (18, true), (19, true), (20, true), (21, true), (22, true), (23, true), (24, true), (25, true), (26, true), (27, true), (28, true), (29, true), (30, true), (31, true), (32, true), (33, true), (34, true), (35, true), (36, true), (37, true), (38, true), (39, true), (40, true)] (by kernel_rfl) (by kernel_rfl) (by kernel_rfl) (by decide) (fun _ _ d _ _ h => by cases d <;> exact h) (by first | with_reducible exact pr_start _ | exact pr_of (by (with_reducible (repeat' (first | exact Ext.refl _ | assumption | refine Ext.drew ?_ | refine Ext.drewN ?_ _ | refine Ext.alloc ?_ _ | refine Ext.setCell ?_ ?_ _ | refine Ext.trans ?_ (by assumption)))); all_goals (first | (simp; done) | (simp; omega)))) (fun hHeld => ?_)
    iterate 41 (apply SeqH.free; (· (simp only [List.getElem?_toArray, List.getElem?_cons_succ, List.getElem?_cons_zero]; rfl)); (· first | exact Or.inr ⟨by rfl, rfl⟩ | (refine Or.inl ⟨by rfl, ?_⟩; intro w hSw; (try dsimp only at hSw); go_simp; try with_reducible rfl)); try simp only [Act.put, List.setIfInBounds_toArray, List.set_cons_zero, List.set_cons_succ])
    refine SeqH.done ?_
    clear hHeld q1 q2 q3 q4 q5 q6
    obtain ⟨w5, hw5⟩ : ∃ w5, w5 = w4.drew := ⟨_, rfl⟩
    have hx5 : Ext w4 w5 := by rw [hw5]; exact (Ext.refl _).drew
    have Y5 := hide (Blk.ext Y4.out hx5)
    have BF5 := hide (Blk.ext BF4.out hx5)
    have BE5 := hide (Blk.ext BE4.out hx5)
    have O5 := hide (O4.out.ext hx5)
    have HX5 := hide (HX4.out.trans hx5)
    have hz5 := hx5.size
    have hpm : (p1.map (cellV W)).length = p1.length := List.length_map _
    have HPM := hide hpm
    have hpl := HPL.out
    rw [← hw5]
    clear hw5 hx5 f0 f1 f2 fz g0 g1 g2 g3 g4 gz y0 y1 y2 yz z0 z1 z2 zz r1 r2 k1' k2' k3' k4' u1 u2 u3 u4 u5 j1 j2 hpm Z4 Y4 BF4 BE4 O4 HX4
    have y0 := Y5.out.at 0 rfl; have y1 := Y5.out.at 1 rfl; have y2 := Y5.out.at 2 rfl; have yz := Y5.out.lt
    go_wp2_with (at_builtin; go_loud (refine wpList_app_more cellE T_cells rfl _ _ rfl w5.heap.size _ [] (p1.map (cellV W)) rfl (Own.lit0 cellE w5 _ _ _ rfl (Nat.le_refl _)) g 0 rc (by rw [HPM.out]; rfl) (Reads.cells (O5.out.reads.ext ((Ext.refl _).alloc _))).2.2 (by rw [HPM.out]; simp; omega) (by rw [HPM.out]; simp; omega) (by simp) ?_); intro v6 w6 ho6 hb6; have O6 := hide ho6; have HB6 := hide hb6; clear ho6 hb6)
    rw [List.nil_append] at O6
    have hz56 := HB6.out.size
    have Y6 := hide (Y5.out.touch (S := fun j => w5.heap.size ≤ j) (Touch.below (Below.trans ((Below.refl _ _).alloc (Nat.le_refl _) _) HB6.out) (fun k _ hk => hk)) (by omega))
    have T56 := hide (Touch.below (S := fun j => w5.heap.size ≤ j) (Below.trans ((Below.refl w5.heap.size w5).alloc (Nat.le_refl _) _) HB6.out) (fun k _ hk => hk))
    have R6 := hide (O5.out.touch T56.out (fun k hk h => by have := (own_lt O5.out hk).2; omega))
    have BF6 := hide (BF5.out.touch T56.out (by omega))
    have BE6 := hide (BE5.out.touch T56.out (by omega))
    have HX6 := hide (((Touch.of_ext (S := fun _ => False) HX5.out).after T56.out (fun j hj h => by omega)).ext)
    clear y0 y1 y2 yz T56 HB6 Y5 BF5 BE5 HX5 O5
    simp only [World.size_alloc] at hz56
    go_loopw [12] (fun iv wr => ∃ (k : Nat) (L : List Cell), k ≤ p1.length ∧ iv = .int .i64 k ∧ L.length = p1.length ∧ Own cellE wr w1.heap.size 49 (.slice (some ⟨g, 0, none⟩) p1.length rc) L ∧ Touch (fun j => j = g) w6 wr) (fun iv _ => p1.length - (intOf iv).toNat)
    case atStart => exact ⟨0, _, Nat.zero_le _, rfl, HPM.out, R6.out, Touch.refl _ _⟩
    case round =>
      obtain ⟨k, L, hk, rfl, hL, hown, htt⟩ := hrel
      have HO := hide hown
      have TT := hide htt
      have HL := hide hL
      have Yr := hide (Y6.out.touch htt (by omega))
      have hzr := htt.size
      clear hL hown htt R6
      have y0 := Yr.out.at 0 rfl; have y1 := Yr.out.at 1 rfl; have y2 := Yr.out.at 2 rfl; have yz := Yr.out.lt
      by_cases hlt : k < p1.length
      · obtain ⟨q, hq⟩ : ∃ q, L[k]? = some q := ⟨_, List.getElem?_eq_getElem (by rw [HL.out]; exact hlt)⟩
        obtain ⟨d0, d1, zg6⟩ := cell_cells HO.out hq
        have e0 := cell_frozen HO.out (k * 2)
        have e1 := cell_frozen HO.out (k * 2 + 1)
        have TN := hide (cell_turn HO.out (i := k) (by rw [HL.out]; exact hlt) (-5, -5))
        clear hq
        go_wp2_with fail
        go_roundw
        case rel => exact ⟨k + 1, L.set k (-5, -5), hlt, by go_num, by rw [List.length_set]; exact HL.out, TN.out, (TT.out.setCell (p := ⟨g, k * 2, none⟩) (.inl rfl) _).setCell (p := ⟨g, k * 2 + 1, none⟩) (.inl rfl) _⟩
        case measure => simp [intOf]; omega
      · obtain rfl : k = p1.length := by omega
        have BFr := hide (BF6.out.touch TT.out (by omega))
        have BEr := hide (BE6.out.touch TT.out (by omega))
        have Or := hide (O6.out.touch TT.out (fun j hj e => by have := (own_lt O6.out hj).1; omega))
        have hxr := ((Touch.of_ext (S := fun _ => False) HX6.out).after TT.out (fun j hj e => by omega)).ext
        have HXr := hide hxr
        clear hxr hlt
        have f0 := BFr.out.at 0 rfl; have f1 := BFr.out.at 1 rfl; have f2 := BFr.out.at 2 rfl; have fz := BFr.out.lt
        have h0 := BEr.out.at 0 rfl; have h1 := BEr.out.at 1 rfl; have h2 := BEr.out.at 2 rfl; have h3 := BEr.out.at 3 rfl; have h4 := BEr.out.at 4 rfl; have hz := BEr.out.lt
        go_wp2_with fail
        refine (H1.out _ x y tx ty HXr.out).mono ?_
        rintro e w8 ⟨hb8, p3, c3, k3, e3, v3, hs3, rfl, ho3⟩
        obtain ⟨rfl, rfl, rfl, rfl⟩ := HSR.out.one hs3
        have O8 := hide (Or.out.reads.ext hb8)
        have V8 := hide ho3.reads
        obtain ⟨ua, uc, hu3⟩ := ho3.slice
        rw [List.length_map] at hu3
        subst hu3
        have HX8 := hide (HXr.out.trans hb8)
        clear hs3 ho3 hb8
        go_wp2_with fail
        refine (cells10_any (l := p1.map (cellV W)) (by rw [List.length_map]; omega) (V8.out.ext (by (with_reducible (repeat' (first | exact Ext.refl _ | assumption | refine Ext.drew ?_ | refine Ext.drewN ?_ _ | refine Ext.alloc ?_ _ | refine Ext.setCell ?_ ?_ _ | refine Ext.trans ?_ (by assumption)))); all_goals (first | (simp; done) | (simp; omega)))) (O8.out.ext (by (with_reducible (repeat' (first | exact Ext.refl _ | assumption | refine Ext.drew ?_ | refine Ext.drewN ?_ _ | refine Ext.alloc ?_ _ | refine Ext.setCell ?_ ?_ _ | refine Ext.trans ?_ (by assumption)))); all_goals (first | (simp; done) | (simp; omega))))).mono ?_
        rintro e w9 ⟨rfl, hb9⟩
        have hx89 : Ext w8 w9 := (by (with_reducible (repeat' (first | exact Ext.refl _ | assumption | refine Ext.drew ?_ | refine Ext.drewN ?_ _ | refine Ext.alloc ?_ _ | refine Ext.setCell ?_ ?_ _ | refine Ext.trans ?_ (by assumption)))); all_goals (first | (simp; done) | (simp; omega)))
        have HX9 := hide (HX8.out.trans hx89)
        clear hx89 hb9
        go_wp2_with (go_at_call 28; refine (awake10_any _).mono ?_; rintro e w10 ⟨rfl, hb10⟩)
        go_ret
        exact ⟨rfl, HX9.out.trans (by (with_reducible (repeat' (first | exact Ext.refl _ | assumption | refine Ext.drew ?_ | refine Ext.drewN ?_ _ | refine Ext.alloc ?_ _ | refine Ext.setCell ?_ ?_ _ | refine Ext.trans ?_ (by assumption)))); all_goals (first | (simp; done) | (simp; omega)))⟩

theorem starOwn_any {w : World} (W H : Int) (a : Option Addr) (l : List Int) (c : Nat) (x y tx ty b : Int) (hr : Row16 w a l) (hu : U16s l) :
    Calls Try.prog 7 #[.agg #[.int .i64 W, .int .i64 H, .slice a l.length c], .agg #[.int .i64 x, .int .i64 y, .int .i64 tx, .int .i64 ty, .int .i64 b]] w fun e w' => e = .returned (.bool true) ∧ Ext w w' := by
  by_cases hn : (l.length : Int) ≤ 150
  · exact so_near c x y tx ty b hr hu hn
  · exact so_far W H a l.length c x y tx ty b hn
end Go.Proofs.Ytkonojjillcfiaa

/- The law StarOwn, as it is said. -/
namespace Go.Proofs.Ytkonojjillcfiaa
open Go.RowKit Go.ChangeShapes Go.WideShapes Go.ChangeAt

set_option maxRecDepth 100000 in
theorem starOwn_lifted (os : Os) (started : os.Started) (H : Type) (enc : TypeId × Value → H) :
    ReturnsInHanded {} Try.checked os 7 .any (Rows.starOwnSpec.pre6 enc Try.prog Try.f7 Rows.starOwnRow.domain false) (Rows.starOwnSpec.post enc Try.prog Try.f7 false true false false) := by
  refine returnsInHanded_of_change (C := Try.checked) own started (by kernel_rfl) Try.func7
    (ChangeSpec.witness6 (enc := enc) (C := Try.checked) false ⟨#[], #[.agg #[.int .i64 0, .int .i64 0, .slice none 0 0], .agg #[.int .i64 0, .int .i64 0, .int .i64 0, .int .i64 0, .int .i64 0]], []⟩ 8 (by kernel_rfl) (by kernel_rfl) (by kernel_rfl) (by kernel_rfl)) ?_
  intro W base args ds gs before hval0 hW hcnd hsz
  have hval : ∀ (j : Nat) t v, Try.f7.params[j]? = some t → args[j]? = some v → Value.okWide Try.prog W .any base t v := hval0
  have hW' := hW
  obtain ⟨p, q, hA0, hV, rfl, hfz, hnd⟩ := hW
  have hA : DataW.TrodAll enc Try.prog W 0 (fun _ => true) true Try.f7.params.toList args.toList ds p := hA0
  rw [Try.params7] at hA hval
  obtain ⟨v0, vs0, d0, ds0, p0, q0, hargs, rfl, rfl, h0, r0⟩ := trodAll_cons hA
  obtain ⟨v1, vs1, d1, ds1, p1, q1, rfl, rfl, rfl, h1, r1⟩ := trodAll_cons r0
  obtain ⟨rfl, rfl, rfl⟩ := trodAll_nil r1
  obtain rfl : args = #[v0, v1] := by cases args; simp_all
  obtain ⟨rfl, rfl⟩ := trodVars_none hV
  have k0 := h0
  have lt0 : ∀ x ∈ p0, x.block < W.heap.size := by obtain ⟨m, hm⟩ := k0; exact DataW.trod_lt m _ _ _ hm
  have k1 := h1
  have lt1 : ∀ x ∈ p1, x.block < W.heap.size := by obtain ⟨m, hm⟩ := k1; exact DataW.trod_lt m _ _ _ hm
  obtain ⟨W0, H0, a0, l0, c0, rfl, fv0⟩ := open_field (hval 0 26 v0 rfl rfl) h0
  obtain ⟨fx1, fy1, tx1, ty1, bu1, rfl, ie1⟩ := open_ends10 (hval 1 58 v1 rfl rfl) h1
  clear hA0 hval0
  refine (starOwn_any W0 H0 a0 l0 c0 fx1 fy1 tx1 ty1 bu1 fv0.2.2.2.1 fv0.2.2.2.2).mono fun e W' ⟨he, bel⟩ => ?_
  subst he
  exact ⟨_, rfl, _, _, _, [], _, [], hW', trodAll_mk1 (shut_bool Try.underlying4 _), (trodAll_cons_mk (Below.trod laidOut (by kernel_rfl) (of_decide_eq_true (by kernel_rfl)) k0 bel lt0) (trodAll_cons_mk (Below.trod laidOut (by kernel_rfl) (of_decide_eq_true (by kernel_rfl)) k1 bel lt1) trodAll_mk0)), rfl, Below.frame bel _, fun h => by cases h⟩

theorem starOwn_holds : Rows.StarOwnSaid :=
  OpenClaim.holds_of_wide 7 Try.f7 rfl rfl rfl rfl rfl rfl rfl ⟨rfl, rfl, rfl, rfl, rfl⟩ rfl rfl rfl rfl rfl (by kernel_rfl) Try.func7 (by kernel_rfl)
    (of_decide_eq_true (by kernel_rfl)) (by unfold Func.isWrapper; first | (rw [if_pos (by decide +kernel)]; kernel_rfl) | (rw [if_neg (by decide +kernel)]; exact ⟨rfl, rfl⟩))
    (fun os started H enc _ => starOwn_lifted os started H enc)
#print axioms starOwn_holds
end Go.Proofs.Ytkonojjillcfiaa
