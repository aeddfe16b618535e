/- The law RedoNew, as it is said: what the world of a field has, and which may be. -/
import Derived.Test.YtkioohhjjdlhiaaGreatRefW
import Derived.Test.YtkioohhjjdlhiaaGreatAwake14
import Derived.Test.YtkioohhjjdlhiaaGreatArgF
set_option linter.all false
set_option linter.unusedVariables false
set_option linter.unusedSimpArgs false
namespace Go.Proofs.YtkioohhjjdlhiaaGreat
open Go.RowKit Go.ChangeShapes Go.WideShapes Go.ChangeAt

set_option maxRecDepth 100000 in
theorem rn_far {w : World} (W H : Int) (a : Option Addr) (n c : Nat) (s : Int) (h : 260 < n) :
    Calls Tryz.prog 3 #[.agg #[.int .i64 W, .int .i64 H, .slice a n c], .int .i64 s] w fun e w' => e = .returned (.bool true) ∧ Ext w w' := by
  have h1 : (260 : Int) < (n : Int) := by omega
  have h2 : decide ((260 : Int) < (n : Int)) = true := by simpa using h1
  clear h
  go_enter Tryz.func3, Tryz.ntmps3
  go_wp2_with fail
  refine (awake14_any _).mono ?_
  rintro e w2 ⟨rfl, hb2⟩
  go_wp2_with fail
  go_ret
  exact ⟨rfl, (by (with_reducible (repeat' (first | exact Ext.refl _ | assumption | refine Ext.drew ?_ | refine Ext.drewN ?_ _ | refine Ext.alloc ?_ _ | refine Ext.setCell ?_ ?_ _ | refine Ext.trans ?_ (by assumption)))); all_goals (first | (simp; done) | (simp; omega)))⟩

set_option maxRecDepth 100000 in
theorem rn_bad {w : World} (W H : Int) (a : Option Addr) (n c : Nat) (s : Int) (h : n ≤ 260) (he : newE W H n s ≠ 0) :
    Calls Tryz.prog 3 #[.agg #[.int .i64 W, .int .i64 H, .slice a n c], .int .i64 s] w fun e w' => e = .returned (.bool true) ∧ Ext w w' := by
  have h1 : ¬ (260 : Int) < (n : Int) := by omega
  have h2 : decide ((260 : Int) < (n : Int)) = false := by simpa using h1
  have HB := hide (fun (w' : World) => rdNew_bad (w := w') W H a n c s he)
  have HM := hide (fun (w' : World) => r14May_any (w := w') W H a n c s)
  generalize newE W H n s = er at *
  have hne : (er != 0) = true := by simpa using he
  clear h he
  go_enter Tryz.func3, Tryz.ntmps3
  go_wp2_with fail
  refine (HB.out _).mono ?_
  rintro e w1 ⟨rfl, hb1⟩
  obtain ⟨hc1, hf1⟩ := hb1.cells; have hz1 := hb1.size; (repeat (first | rw [World.size_alloc] at hz1 | rw [World.size_drew] at hz1)); have z1_0 : w.heap.size < w1.heap.size := (by omega)
  go_wp2_with fail
  refine (HM.out _).mono ?_
  rintro e w2 ⟨rfl, hb2⟩
  go_wp2_with fail
  refine (awake14_any _).mono ?_
  rintro e w3 ⟨rfl, hb3⟩
  go_wp2_with fail
  go_ret
  exact ⟨rfl, (by (with_reducible (repeat' (first | exact Ext.refl _ | assumption | refine Ext.drew ?_ | refine Ext.drewN ?_ _ | refine Ext.alloc ?_ _ | refine Ext.setCell ?_ ?_ _ | refine Ext.trans ?_ (by assumption)))); all_goals (first | (simp; done) | (simp; omega)))⟩

theorem gates_fewN {W H s : Int} {l : List Int} (g : Good W H s l) (hl : l.length ≤ 260) : (gatesA W H s l).length ≤ 50000 := by
  have h1 : cnt W H s ≤ W * H := by
    obtain ⟨r1, r2, r3, r4, r5, r6⟩ := rightB_true.1 g.right
    have b1 := acr_bd W s r5 r6 r1 r2
    have b2 := acr_bd H s r5 r6 r3 r4
    have hle : ∀ L : Int, 1 ≤ L → acr L s ≤ L := fun L hL => by
      unfold acr
      apply Int.ediv_le_of_le_mul (by omega)
      have := Int.mul_nonneg (show (0 : Int) ≤ L - 1 by omega) (show (0 : Int) ≤ s - 1 by omega)
      rw [Int.sub_mul, Int.mul_sub] at this
      omega
    unfold cnt
    exact Int.mul_le_mul (hle W r1) (hle H r3) (by omega) (by omega)
  have h2 := (checkE_ok.1 g.ok).2
  have h3 := g.cnt
  have h4 := ofG_len (l := l) g.right (n := (cnt W H s).toNat) (by omega)
  unfold gatesA
  omega
theorem good_newE {W H s : Int} {l : List Int} (g : Good W H s l) : newE W H l.length s = 0 := by
  unfold newE; rw [if_pos g.ok, if_pos g.right]
theorem newE_good {W H s : Int} {l : List Int} (hu : U16s l) (he : newE W H l.length s = 0) : Good W H s l := by
  unfold newE at he
  by_cases h0 : checkE W H l.length = 0
  · rw [if_pos h0] at he
    by_cases hr2 : rightB W H s = true
    · exact ⟨h0, hr2, hu⟩
    · rw [if_neg hr2] at he; cases he
  · rw [if_neg h0] at he; exact absurd he h0

set_option maxRecDepth 100000 in
set_option maxHeartbeats 1000000 in
theorem rn_main {w : World} {W H : Int} {a : Option Addr} {l : List Int} (c : Nat) {s : Int} (g : Good W H s l) (hr : Row16 w a l) (h : l.length ≤ 260) :
    Calls Tryz.prog 3 #[.agg #[.int .i64 W, .int .i64 H, .slice a l.length c], .int .i64 s] w fun e w' => e = .returned (.bool true) ∧ Ext w w' := by
  have HM := hide (fun (w' : World) => r14May_any (w := w') W H a l.length c s)
  rw [good_newE g] at HM
  have HGS := hide (gates_fewN g h)
  have HNW := hide (fun (w' : World) (x : Ext w w') => rdNew_yes (w := w') c g (hr.ext x) HGS.out)
  have HNR := hide (fun (w' : World) (x : Ext w w') => r14New_any (w := w') c g (hr.ext x) HGS.out)
  obtain ⟨n, hn⟩ : ∃ z, l.length = z := ⟨_, rfl⟩
  rw [hn] at HM HNW HNR h ⊢
  have h1 : ¬ (260 : Int) < (n : Int) := by omega
  have h2 : decide ((260 : Int) < (n : Int)) = false := by simpa using h1
  clear g hr hn h
  go_enter Tryz.func3, Tryz.ntmps3
  go_wp2_with fail
  refine (HNW.out _ (by (with_reducible (repeat' (first | exact Ext.refl _ | assumption | refine Ext.drew ?_ | refine Ext.drewN ?_ _ | refine Ext.alloc ?_ _ | refine Ext.setCell ?_ ?_ _ | refine Ext.trans ?_ (by assumption)))); all_goals (first | (simp; done) | (simp; omega)))).mono ?_
  rintro e w1 ⟨p, R, rfl, hw, x1, hF, hR⟩
  have HW := hide hw
  have B1 := hide (show Blk w1 w.heap.size 26 #[.int .i64 W, .int .i64 H, .slice a n c] from by refine Blk.ext ?_ x1; exact Blk.new_ rfl)
  have X1 := hide (show Ext w w1 from (by (with_reducible (repeat' (first | exact Ext.refl _ | assumption | refine Ext.drew ?_ | refine Ext.drewN ?_ _ | refine Ext.alloc ?_ _ | refine Ext.setCell ?_ ?_ _ | refine Ext.trans ?_ (by assumption)))); all_goals (first | (simp; done) | (simp; omega))))
  clear hw hF hR x1
  have y0 := B1.out.at 0 rfl; have y1 := B1.out.at 1 rfl; have y2 := B1.out.at 2 rfl; have yz := B1.out.lt
  go_wp2_with fail
  refine (HM.out _).mono ?_
  rintro e w2 ⟨rfl, x2⟩
  have B2 := hide (B1.out.ext x2)
  have X2 := hide (X1.out.trans x2)
  have W2 := hide (HW.out.ext x2)
  clear y0 y1 y2 yz x2 HW X1 B1
  have y0 := B2.out.at 0 rfl; have y1 := B2.out.at 1 rfl; have y2 := B2.out.at 2 rfl; have yz := B2.out.lt
  go_wp2_with fail
  refine (HNR.out _ X2.out).mono ?_
  rintro e w3 ⟨q, rfl, x3, hq, _, _, _⟩
  have HQ := hide hq
  have W3 := hide (W2.out.ext x3)
  have X3 := hide (X2.out.trans x3)
  clear y0 y1 y2 yz x3 hq W2 X2 B2
  go_wp2_with fail
  refine (is14_yes W3.out HQ.out HGS.out).mono ?_
  rintro e w4 ⟨rfl, x4⟩
  go_wp2_with fail
  refine (awake14_any _).mono ?_
  rintro e w5 ⟨rfl, x5⟩
  go_wp2_with fail
  go_ret
  exact ⟨rfl, (X3.out.trans x4).trans x5⟩

theorem redoNew_any {w : World} (W H : Int) (a : Option Addr) (l : List Int) (c : Nat) (s : Int) (hr : Row16 w a l) (hu : U16s l) :
    Calls Tryz.prog 3 #[.agg #[.int .i64 W, .int .i64 H, .slice a l.length c], .int .i64 s] w fun e w' => e = .returned (.bool true) ∧ Ext w w' := by
  by_cases h : l.length ≤ 260
  · by_cases he : newE W H l.length s = 0
    · exact rn_main c (newE_good hu he) hr h
    · exact rn_bad W H a l.length c s h he
  · exact rn_far W H a l.length c s (by omega)

set_option maxRecDepth 100000 in
theorem redoNew_lifted (os : Os) (started : os.Started) (H : Type) (enc : TypeId × Value → H) :
    ReturnsInHanded {} Tryz.checked os 3 .any (Rows.redoNewSpec.pre6 enc Tryz.prog Tryz.f3 Rows.redoNewRow.domain false) (Rows.redoNewSpec.post enc Tryz.prog Tryz.f3 false true false false) := by
  refine returnsInHanded_of_change (C := Tryz.checked) own started (by kernel_rfl) Tryz.func3
    (ChangeSpec.witness6 (enc := enc) (C := Tryz.checked) false ⟨#[], #[.agg #[.int .i64 0, .int .i64 0, .slice none 0 0], .int .i64 0], []⟩ 8 (by kernel_rfl) (by kernel_rfl) (by kernel_rfl) (by kernel_rfl)) ?_
  intro W base args ds gs before hval0 hW hcnd hsz
  have hval : ∀ (j : Nat) t v, Tryz.f3.params[j]? = some t → args[j]? = some v → Value.okWide Tryz.prog W .any base t v := hval0
  have hW' := hW
  obtain ⟨p, q, hA0, hV, rfl, hfz, hnd⟩ := hW
  have hA : DataW.TrodAll enc Tryz.prog W 0 (fun _ => true) true Tryz.f3.params.toList args.toList ds p := hA0
  rw [Tryz.params3] at hA hval
  obtain ⟨v0, vs0, d0, ds0, p0, q0, hargs, rfl, rfl, h0, r0⟩ := trodAll_cons hA
  obtain ⟨v1, vs1, d1, ds1, p1, q1, rfl, rfl, rfl, h1, r1⟩ := trodAll_cons r0
  obtain ⟨rfl, rfl, rfl⟩ := trodAll_nil r1
  obtain rfl : args = #[v0, v1] := by cases args; simp_all
  obtain ⟨rfl, rfl⟩ := trodVars_none hV
  have k0 := h0
  have lt0 : ∀ x ∈ p0, x.block < W.heap.size := by obtain ⟨m, hm⟩ := k0; exact DataW.trod_lt m _ _ _ hm
  have k1 := h1
  have lt1 : ∀ x ∈ p1, x.block < W.heap.size := by obtain ⟨m, hm⟩ := k1; exact DataW.trod_lt m _ _ _ hm
  obtain ⟨W0, H0, a0, l0, c0, rfl, fv0⟩ := open_field (hval 0 26 v0 rfl rfl) h0
  obtain ⟨n1, rfl, rfl, rfl, wf1⟩ := open_int Tryz.underlying3 (hval 1 3 v1 rfl rfl) h1
  clear hA0 hval0
  refine (redoNew_any W0 H0 a0 l0 c0 n1 fv0.2.2.2.1 fv0.2.2.2.2).mono fun e W' ⟨he, bel⟩ => ?_
  subst he
  exact ⟨_, rfl, _, _, _, [], _, [], hW', trodAll_mk1 (shut_bool Tryz.underlying4 _), (trodAll_cons_mk (Below.trod laidOut (by kernel_rfl) (of_decide_eq_true (by kernel_rfl)) k0 bel lt0) (trodAll_cons_mk (Below.trod laidOut (by kernel_rfl) (of_decide_eq_true (by kernel_rfl)) k1 bel lt1) trodAll_mk0)), rfl, Below.frame bel _, fun h => by cases h⟩

theorem andT_mk {a b : Bool} (h1 : a = true) (h2 : b = true) : (a && b) = true := by rw [h1, h2]; rfl

set_option maxRecDepth 100000 in
set_option maxHeartbeats 8000000 in
theorem redoNew_holds : Rows.RedoNewSaid :=
  OpenClaim.holds_of_wide 3 Tryz.f3 rfl rfl rfl rfl rfl rfl rfl ⟨rfl, rfl, rfl, rfl, rfl⟩ rfl rfl rfl rfl rfl (by kernel_rfl) Tryz.func3 (by unfold joinedFacts; (with_reducible repeat' (refine andT_mk ?_ ?_)); all_goals (as_aux_lemma => kernel_rfl))
    (of_decide_eq_true (by kernel_rfl)) (by unfold Func.isWrapper; first | (rw [if_pos (by decide +kernel)]; kernel_rfl) | (rw [if_neg (by decide +kernel)]; exact ⟨rfl, rfl⟩))
    (fun os started H enc _ => redoNew_lifted os started H enc)
#print axioms redoNew_holds
end Go.Proofs.YtkioohhjjdlhiaaGreat
