/- The law StarBudget, as it is said. -/
import Derived.Test.YtkonojjillcfiaaStarBudgetP13
import Derived.Test.YtkonojjillcfiaaStarBudgetP11
set_option linter.all false
set_option linter.unusedVariables false
set_option linter.unusedSimpArgs false
/- The walk of StarBudget. -/
namespace Go.Proofs.Ytkonojjillcfiaa
open Go.RowKit

set_option maxRecDepth 100000 in
theorem sb_far {w : World} (W H : Int) (a : Option Addr) (n c : Nat) (x y tx ty b : Int) (hn : ¬ (n : Int) ≤ 150) :
    Calls Try.prog 6 #[.agg #[.int .i64 W, .int .i64 H, .slice a n c], .agg #[.int .i64 x, .int .i64 y, .int .i64 tx, .int .i64 ty, .int .i64 b]] w fun e w' => e = .returned (.bool true) ∧ Ext w w' := by
  have HS := hide (fun w' => small10_any W H a n c w')
  rw [show decide ((n : Int) ≤ 150) = false by simpa using hn] at HS
  clear hn
  go_enter Try.func6, Try.ntmps6
  go_wp2_with (first
    | (go_at_call 27; refine (HS.out _).mono ?_; rintro e w1 ⟨rfl, hb1⟩; obtain ⟨hc1, hf1⟩ := hb1.cells; have hz1 := hb1.size; (repeat (first | rw [World.size_alloc] at hz1 | rw [World.size_drew] at hz1)))
    | (go_at_call 28; refine (awake10_any _).mono ?_; rintro e w2 ⟨rfl, hb2⟩))
  go_ret
  exact ⟨rfl, (by (with_reducible (repeat' (first | exact Ext.refl _ | assumption | refine Ext.drew ?_ | refine Ext.drewN ?_ _ | refine Ext.alloc ?_ _ | refine Ext.setCell ?_ ?_ _ | refine Ext.trans ?_ (by assumption)))); all_goals (first | (simp; done) | (simp; omega)))⟩

set_option maxRecDepth 100000 in
theorem sb_near {w : World} {W H : Int} {a : Option Addr} {l : List Int} (c : Nat) (x y tx ty b : Int) (hr : Row16 w a l) (hu : U16s l) (hn : (l.length : Int) ≤ 150) :
    Calls Try.prog 6 #[.agg #[.int .i64 W, .int .i64 H, .slice a l.length c], .agg #[.int .i64 x, .int .i64 y, .int .i64 tx, .int .i64 ty, .int .i64 b]] w fun e w' => e = .returned (.bool true) ∧ Ext w w' := by
  have HS := hide (fun w' => small10_any W H a l.length c w')
  rw [show decide ((l.length : Int) ≤ 150) = true by simpa using hn] at HS
  have H1 := hide (fun (w' : World) (b : Int) (hx : Ext w w') => sFind_uni (w := w') W H a c x y tx ty b (hr.ext hx) hu)
  have HP := hide (fun (p : List Nat) (b cc k er : Int) (h : Srch W H l x y tx ty b p cc k er) => (by
    rcases h with ⟨n1, rfl, _⟩ | ⟨_, L, s⟩
    · simp
    · have := (s.path (netOk L _)).1
      have : (mapNet L).n = l.length := rfl
      omega : p.length ≤ 150))
  obtain ⟨n, hnn⟩ : ∃ n, l.length = n := ⟨_, rfl⟩
  have HN := hide hnn
  rw [hnn] at HS H1 ⊢
  clear hn hr hu hnn
  go_enter Try.func6, Try.ntmps6
  go_wp2_with (go_at_call 27; refine (HS.out _).mono ?_; rintro e w1 ⟨rfl, hb1⟩; obtain ⟨hc1, hf1⟩ := hb1.cells; have hz1 := hb1.size; (repeat (first | rw [World.size_alloc] at hz1 | rw [World.size_drew] at hz1)); have z1_0 : w.heap.size < w1.heap.size := (by omega); have z1_1 : w.heap.size + 1 < w1.heap.size := (by omega))
  refine (H1.out _ _ (by (with_reducible (repeat' (first | exact Ext.refl _ | assumption | refine Ext.drew ?_ | refine Ext.drewN ?_ _ | refine Ext.alloc ?_ _ | refine Ext.setCell ?_ ?_ _ | refine Ext.trans ?_ (by assumption)))); all_goals (first | (simp; done) | (simp; omega)))).mono ?_
  rintro e w2 ⟨hb2, p1, c1, k1, e1, v1, hs1, rfl, ho1⟩
  obtain ⟨hc2, hf2⟩ := hb2.cells; have hz2 := hb2.size; (repeat (first | rw [World.size_alloc] at hz2 | rw [World.size_drew] at hz2)); have z2_0 : w.heap.size < w2.heap.size := (by omega); have z2_1 : w.heap.size + 1 < w2.heap.size := (by omega)
  have HSR := hide hs1
  have HO1 := hide ho1.reads
  obtain ⟨ra, rc, hrv⟩ := ho1.slice
  rw [List.length_map] at hrv
  subst hrv
  clear hs1 ho1
  go_wp2_with fail
  refine (H1.out _ _ (by (with_reducible (repeat' (first | exact Ext.refl _ | assumption | refine Ext.drew ?_ | refine Ext.drewN ?_ _ | refine Ext.alloc ?_ _ | refine Ext.setCell ?_ ?_ _ | refine Ext.trans ?_ (by assumption)))); all_goals (first | (simp; done) | (simp; omega)))).mono ?_
  rintro e w3 ⟨hb3, p2, c2, k2, e2, v2, hs2, rfl, ho2⟩
  obtain ⟨hc3, hf3⟩ := hb3.cells; have hz3 := hb3.size; (repeat (first | rw [World.size_alloc] at hz3 | rw [World.size_drew] at hz3)); have z3_0 : w.heap.size < w3.heap.size := (by omega); have z3_1 : w.heap.size + 1 < w3.heap.size := (by omega); have z3_2 : w2.heap.size < w3.heap.size := (by omega)
  have hL := srch_budget (by rw [HN.out]; exact HSR.out) hs2
  have HPL := hide (HP.out _ _ _ _ _ hs2)
  have hx23 : Ext w2 w3 := (by (with_reducible (repeat' (first | exact Ext.refl _ | assumption | refine Ext.drew ?_ | refine Ext.drewN ?_ _ | refine Ext.alloc ?_ _ | refine Ext.setCell ?_ ?_ _ | refine Ext.trans ?_ (by assumption)))); all_goals (first | (simp; done) | (simp; omega)))
  have HO13 := hide (HO1.out.ext hx23)
  have HO2 := hide ho2.reads
  clear hs2 ho2 hx23
  obtain ⟨va, vc, hv2⟩ := HO2.out.slice
  rw [List.length_map] at hv2
  subst hv2
  rcases hL with ⟨g1, g2, rfl, rfl, rfl⟩ | ⟨rfl | rfl, g1, rfl, rfl, rfl⟩ | ⟨rfl | rfl, g1, g2, rfl, rfl, rfl, rfl⟩ | ⟨rfl | rfl, g1, g2, rfl, rfl, rfl, rfl⟩
  · have f1 : (e2 != 0) = true := by simpa using g1
    have f2 : (e2 != 22) = true := by simpa using g2
    have f3 : (e2 == e2) = true := by simp
    simp only [List.length_nil]
    clear g1 g2
    go_wp2_with (go_at_call 28; refine (awake10_any _).mono ?_; rintro e w6 ⟨rfl, hb6⟩)
    go_ret
    exact ⟨rfl, (by (with_reducible (repeat' (first | exact Ext.refl _ | assumption | refine Ext.drew ?_ | refine Ext.drewN ?_ _ | refine Ext.alloc ?_ _ | refine Ext.setCell ?_ ?_ _ | refine Ext.trans ?_ (by assumption)))); all_goals (first | (simp; done) | (simp; omega)))⟩
  iterate 2
    · have f1 : decide (b < 0) = true := by simpa using g1
      simp only [List.length_nil]
      clear g1
      go_wp2_with (go_at_call 28; refine (awake10_any _).mono ?_; rintro e w6 ⟨rfl, hb6⟩)
      go_ret
      exact ⟨rfl, (by (with_reducible (repeat' (first | exact Ext.refl _ | assumption | refine Ext.drew ?_ | refine Ext.drewN ?_ _ | refine Ext.alloc ?_ _ | refine Ext.setCell ?_ ?_ _ | refine Ext.trans ?_ (by assumption)))); all_goals (first | (simp; done) | (simp; omega)))⟩
  iterate 2
    · have f1 : decide (k2 < 0) = false := by simpa using g1
      have f2 : decide (k2 < k1) = true := by simpa using g2
      have f3 : (k2 == k2) = true := by simp
      simp only [List.length_nil]
      clear g1 g2
      go_wp2_with (go_at_call 28; refine (awake10_any _).mono ?_; rintro e w6 ⟨rfl, hb6⟩)
      go_ret
      exact ⟨rfl, (by (with_reducible (repeat' (first | exact Ext.refl _ | assumption | refine Ext.drew ?_ | refine Ext.drewN ?_ _ | refine Ext.alloc ?_ _ | refine Ext.setCell ?_ ?_ _ | refine Ext.trans ?_ (by assumption)))); all_goals (first | (simp; done) | (simp; omega)))⟩
  all_goals
    have f1 : decide (b < 0) = false := by simpa using g1
    have f2 : decide (b < k2) = false := by simpa using g2
    have f3 : (c2 == c2) = true := by simp
    have f4 : (k2 == k2) = true := by simp
    clear g1 g2
    go_wp2_with fail
    refine (cells10_any (l := p2.map (cellV W)) (by rw [List.length_map]; have := HPL.out; omega) (HO2.out.ext (by (with_reducible (repeat' (first | exact Ext.refl _ | assumption | refine Ext.drew ?_ | refine Ext.drewN ?_ _ | refine Ext.alloc ?_ _ | refine Ext.setCell ?_ ?_ _ | refine Ext.trans ?_ (by assumption)))); all_goals (first | (simp; done) | (simp; omega)))) (HO13.out.ext (by (with_reducible (repeat' (first | exact Ext.refl _ | assumption | refine Ext.drew ?_ | refine Ext.drewN ?_ _ | refine Ext.alloc ?_ _ | refine Ext.setCell ?_ ?_ _ | refine Ext.trans ?_ (by assumption)))); all_goals (first | (simp; done) | (simp; omega))))).mono ?_
    rintro e w5 ⟨rfl, hb5⟩
    obtain ⟨hc5, hf5⟩ := hb5.cells; have hz5 := hb5.size; (repeat (first | rw [World.size_alloc] at hz5 | rw [World.size_drew] at hz5)); have z5_0 : w2.heap.size < w5.heap.size := (by omega); have z5_1 : w3.heap.size < w5.heap.size := (by omega)
    go_wp2_with (go_at_call 28; refine (awake10_any _).mono ?_; rintro e w6 ⟨rfl, hb6⟩)
    go_ret
    exact ⟨rfl, (by (with_reducible (repeat' (first | exact Ext.refl _ | assumption | refine Ext.drew ?_ | refine Ext.drewN ?_ _ | refine Ext.alloc ?_ _ | refine Ext.setCell ?_ ?_ _ | refine Ext.trans ?_ (by assumption)))); all_goals (first | (simp; done) | (simp; omega)))⟩

theorem starBudget_any {w : World} (W H : Int) (a : Option Addr) (l : List Int) (c : Nat) (x y tx ty b : Int) (hr : Row16 w a l) (hu : U16s l) :
    Calls Try.prog 6 #[.agg #[.int .i64 W, .int .i64 H, .slice a l.length c], .agg #[.int .i64 x, .int .i64 y, .int .i64 tx, .int .i64 ty, .int .i64 b]] w fun e w' => e = .returned (.bool true) ∧ Ext w w' := by
  by_cases hn : (l.length : Int) ≤ 150
  · exact sb_near c x y tx ty b hr hu hn
  · exact sb_far W H a l.length c x y tx ty b hn
end Go.Proofs.Ytkonojjillcfiaa

/- What the statements of layer 10 are given, that came in as data. -/
namespace Go.Proofs.Ytkonojjillcfiaa
open Go.RowKit Go.ChangeShapes Go.WideShapes Go.ChangeAt
section
variable {H : Type} {enc : TypeId × Value → H} {w : World} {r : Reach} {base b0 : Nat} {spare : Nat → Bool} {held : Bool}

set_option maxRecDepth 100000 in
theorem cells_ends10 : Try.prog.cellsOf 58 = 5 := by kernel_rfl
set_option maxRecDepth 100000 in
theorem open_ends10 {v : Value} {d : DataW H} {p : List MemPlace} (hv : Value.okWide Try.prog w r b0 58 v) (h : DataW.Trod enc Try.prog w base spare held 58 v d p) : ∃ x y z u b, v = .agg #[.int .i64 x, .int .i64 y, .int .i64 z, .int .i64 u, .int .i64 b] ∧ InI x ∧ InI y ∧ InI z ∧ InI u ∧ InI b := by
  obtain ⟨cs, rfl, hsz⟩ := okWide_struct Try.underlying58 hv
  obtain ⟨l⟩ := cs
  rw [cells_ends10] at hsz
  match l, hsz with
  | [c0, c1, c2, c3, c4], _ =>
    obtain ⟨fuel, hf⟩ := h
    obtain ⟨xs, n, _, _, _, hlen, hf⟩ := DataW.trod_struct Try.underlying58 hf
    match xs, hlen with
    | [y0, y1, y2], _ =>
      obtain ⟨a, b, rfl, rfl, ha, hb⟩ := trod_two (c0 := c0) (c1 := c1) Try.underlying49 ⟨rfl, rfl⟩ ⟨rfl, rfl⟩ (hf 0 _ rfl)
      obtain ⟨c, e, rfl, rfl, hc, he⟩ := trod_two (c0 := c2) (c1 := c3) Try.underlying49 ⟨rfl, rfl⟩ ⟨rfl, rfl⟩ (hf 1 _ rfl)
      obtain ⟨g, rfl, hg⟩ := one_int (v := c4) (hf 2 _ rfl)
      exact ⟨a, b, c, e, g, rfl, ha, hb, hc, he, hg⟩

set_option maxRecDepth 100000 in
theorem cells_more10 : Try.prog.cellsOf 72 = 2 := by kernel_rfl
set_option maxRecDepth 100000 in
theorem open_more10 {v : Value} {d : DataW H} {p : List MemPlace} (hv : Value.okWide Try.prog w r b0 72 v) (h : DataW.Trod enc Try.prog w base spare held 72 v d p) : ∃ x y, v = .agg #[.int .i64 x, .int .i64 y] ∧ InI x ∧ InI y := by
  obtain ⟨cs, rfl, hsz⟩ := okWide_struct Try.underlying72 hv
  obtain ⟨l⟩ := cs
  rw [cells_more10] at hsz
  match l, hsz with
  | [c0, c1], _ =>
    obtain ⟨fuel, hf⟩ := h
    obtain ⟨xs, n, _, _, _, hlen, hf⟩ := DataW.trod_struct Try.underlying72 hf
    match xs, hlen with
    | [y0, y1], _ =>
      obtain ⟨a, rfl, ha⟩ := one_int (v := c0) (hf 0 _ rfl)
      obtain ⟨b, rfl, hb⟩ := one_int (v := c1) (hf 1 _ rfl)
      exact ⟨a, b, rfl, ha, hb⟩
end
end Go.Proofs.Ytkonojjillcfiaa

/- The law StarBudget, as it is said. -/
namespace Go.Proofs.Ytkonojjillcfiaa
open Go.RowKit Go.ChangeShapes Go.WideShapes Go.ChangeAt

set_option maxRecDepth 100000 in
theorem starBudget_lifted (os : Os) (started : os.Started) (H : Type) (enc : TypeId × Value → H) :
    ReturnsInHanded {} Try.checked os 6 .any (Rows.starBudgetSpec.pre6 enc Try.prog Try.f6 Rows.starBudgetRow.domain false) (Rows.starBudgetSpec.post enc Try.prog Try.f6 false true false false) := by
  refine returnsInHanded_of_change (C := Try.checked) own started (by kernel_rfl) Try.func6
    (ChangeSpec.witness6 (enc := enc) (C := Try.checked) false ⟨#[], #[.agg #[.int .i64 0, .int .i64 0, .slice none 0 0], .agg #[.int .i64 0, .int .i64 0, .int .i64 0, .int .i64 0, .int .i64 0]], []⟩ 8 (by kernel_rfl) (by kernel_rfl) (by kernel_rfl) (by kernel_rfl)) ?_
  intro W base args ds gs before hval0 hW hcnd hsz
  have hval : ∀ (j : Nat) t v, Try.f6.params[j]? = some t → args[j]? = some v → Value.okWide Try.prog W .any base t v := hval0
  have hW' := hW
  obtain ⟨p, q, hA0, hV, rfl, hfz, hnd⟩ := hW
  have hA : DataW.TrodAll enc Try.prog W 0 (fun _ => true) true Try.f6.params.toList args.toList ds p := hA0
  rw [Try.params6] at hA hval
  obtain ⟨v0, vs0, d0, ds0, p0, q0, hargs, rfl, rfl, h0, r0⟩ := trodAll_cons hA
  obtain ⟨v1, vs1, d1, ds1, p1, q1, rfl, rfl, rfl, h1, r1⟩ := trodAll_cons r0
  obtain ⟨rfl, rfl, rfl⟩ := trodAll_nil r1
  obtain rfl : args = #[v0, v1] := by cases args; simp_all
  obtain ⟨rfl, rfl⟩ := trodVars_none hV
  have k0 := h0
  have lt0 : ∀ x ∈ p0, x.block < W.heap.size := by obtain ⟨m, hm⟩ := k0; exact DataW.trod_lt m _ _ _ hm
  have k1 := h1
  have lt1 : ∀ x ∈ p1, x.block < W.heap.size := by obtain ⟨m, hm⟩ := k1; exact DataW.trod_lt m _ _ _ hm
  obtain ⟨W0, H0, a0, l0, c0, rfl, fv0⟩ := open_field (hval 0 26 v0 rfl rfl) h0
  obtain ⟨fx1, fy1, tx1, ty1, bu1, rfl, ie1⟩ := open_ends10 (hval 1 58 v1 rfl rfl) h1
  clear hA0 hval0
  refine (starBudget_any W0 H0 a0 l0 c0 fx1 fy1 tx1 ty1 bu1 fv0.2.2.2.1 fv0.2.2.2.2).mono fun e W' ⟨he, bel⟩ => ?_
  subst he
  exact ⟨_, rfl, _, _, _, [], _, [], hW', trodAll_mk1 (shut_bool Try.underlying4 _), (trodAll_cons_mk (Below.trod laidOut (by kernel_rfl) (of_decide_eq_true (by kernel_rfl)) k0 bel lt0) (trodAll_cons_mk (Below.trod laidOut (by kernel_rfl) (of_decide_eq_true (by kernel_rfl)) k1 bel lt1) trodAll_mk0)), rfl, Below.frame bel _, fun h => by cases h⟩

theorem starBudget_holds : Rows.StarBudgetSaid :=
  OpenClaim.holds_of_wide 6 Try.f6 rfl rfl rfl rfl rfl rfl rfl ⟨rfl, rfl, rfl, rfl, rfl⟩ rfl rfl rfl rfl rfl (by kernel_rfl) Try.func6 (by kernel_rfl)
    (of_decide_eq_true (by kernel_rfl)) (by unfold Func.isWrapper; first | (rw [if_pos (by decide +kernel)]; kernel_rfl) | (rw [if_neg (by decide +kernel)]; exact ⟨rfl, rfl⟩))
    (fun os started H enc _ => starBudget_lifted os started H enc)
#print axioms starBudget_holds
end Go.Proofs.Ytkonojjillcfiaa
