/- The law RedoTwo, as it is said: two updates, one behind the other, come to the same as one of the cells of both, and back again they come to the world that was; and an update that turns no cost tells just the clusters of its cells. -/
import Derived.Test.YtkioohhjjdlhiaaGreatLawRT
import Derived.Test.YtkioohhjjdlhiaaGreatArgR
set_option linter.all false
set_option linter.unusedVariables false
set_option linter.unusedSimpArgs false
namespace Go.Proofs.YtkioohhjjdlhiaaGreat
open Go.RowKit Go.ChangeShapes Go.WideShapes Go.ChangeAt

theorem redoTwo_any {w : World} (W H : Int) (a : Option Addr) (l : List Int) (c : Nat) (s : Int) (ea eb : Option Addr) (E F : List (Int × Int)) (hd hb : Bool) (ec fc : Nat) (hr : Row16 w a l) (hu : U16s l) (he : EditsV w ea E) (hf : EditsV w eb F) :
    Calls Tryz.prog 6 #[.agg #[.int .i64 W, .int .i64 H, .slice a l.length c], .int .i64 s, .agg #[.slice ea E.length ec, .bool hd, .slice eb F.length fc, .bool hb]] w fun e w' => e = .returned (.bool true) ∧ Ext w w' := by
  obtain ⟨h1, h2, h3⟩ := he
  obtain ⟨k1, k2, k3⟩ := hf
  cases h : smallT l.length [(E, hd), (F, hb)]
  · exact rt_far W H a l.length c s ec fc h2 k2 h
  · by_cases hn : newE W H l.length s = 0
    · have g : Good W H s l := by
        unfold newE at hn
        by_cases h0 : checkE W H l.length = 0
        · rw [if_pos h0] at hn
          by_cases hr2 : rightB W H s = true
          · exact ⟨h0, hr2, hu⟩
          · rw [if_neg hr2] at hn; cases hn
        · rw [if_neg h0] at hn; exact absurd hn h0
      exact rt_main c ec fc g hr h2 k2 h3 k3 h
    · exact rt_bad W H a l.length c s ec fc h2 k2 h hn

set_option maxRecDepth 100000 in
theorem redoTwo_lifted (os : Os) (started : os.Started) (H : Type) (enc : TypeId × Value → H) :
    ReturnsInHanded {} Tryz.checked os 6 .any (Rows.redoTwoSpec.pre6 enc Tryz.prog Tryz.f6 Rows.redoTwoRow.domain false) (Rows.redoTwoSpec.post enc Tryz.prog Tryz.f6 false true false false) := by
  refine returnsInHanded_of_change (C := Tryz.checked) own started (by kernel_rfl) Tryz.func6
    (ChangeSpec.witness6 (enc := enc) (C := Tryz.checked) false ⟨#[], #[.agg #[.int .i64 0, .int .i64 0, .slice none 0 0], .int .i64 0, .agg #[.slice none 0 0, .bool false, .slice none 0 0, .bool false]], []⟩ 8 (by kernel_rfl) (by kernel_rfl) (by kernel_rfl) (by kernel_rfl)) ?_
  intro W base args ds gs before hval0 hW hcnd hsz
  have hval : ∀ (j : Nat) t v, Tryz.f6.params[j]? = some t → args[j]? = some v → Value.okWide Tryz.prog W .any base t v := hval0
  have hW' := hW
  obtain ⟨p, q, hA0, hV, rfl, hfz, hnd⟩ := hW
  have hA : DataW.TrodAll enc Tryz.prog W 0 (fun _ => true) true Tryz.f6.params.toList args.toList ds p := hA0
  rw [Tryz.params6] at hA hval
  obtain ⟨v0, vs0, d0, ds0, p0, q0, hargs, rfl, rfl, h0, r0⟩ := trodAll_cons hA
  obtain ⟨v1, vs1, d1, ds1, p1, q1, rfl, rfl, rfl, h1, r1⟩ := trodAll_cons r0
  obtain ⟨v2, vs2, d2, ds2, p2, q2, rfl, rfl, rfl, h2, r2⟩ := trodAll_cons r1
  obtain ⟨rfl, rfl, rfl⟩ := trodAll_nil r2
  obtain rfl : args = #[v0, v1, v2] := by cases args; simp_all
  obtain ⟨rfl, rfl⟩ := trodVars_none hV
  have k0 := h0
  have lt0 : ∀ x ∈ p0, x.block < W.heap.size := by obtain ⟨m, hm⟩ := k0; exact DataW.trod_lt m _ _ _ hm
  have k1 := h1
  have lt1 : ∀ x ∈ p1, x.block < W.heap.size := by obtain ⟨m, hm⟩ := k1; exact DataW.trod_lt m _ _ _ hm
  have k2 := h2
  have lt2 : ∀ x ∈ p2, x.block < W.heap.size := by obtain ⟨m, hm⟩ := k2; exact DataW.trod_lt m _ _ _ hm
  obtain ⟨W0, H0, a0, l0, c0, rfl, fv0⟩ := open_field (hval 0 26 v0 rfl rfl) h0
  obtain ⟨n1, rfl, rfl, rfl, wf1⟩ := open_int Tryz.underlying3 (hval 1 3 v1 rfl rfl) h1
  obtain ⟨sa2, sc2, sE2, sh2, sb2, sd2, sF2, si2, rfl, sv2, sw2⟩ := open_two (hval 2 60 v2 rfl rfl) h2
  clear hA0 hval0
  refine (redoTwo_any W0 H0 a0 l0 c0 n1 sa2 sb2 sE2 sF2 sh2 si2 sc2 sd2 fv0.2.2.2.1 fv0.2.2.2.2 sv2 sw2).mono fun e W' ⟨he, bel⟩ => ?_
  subst he
  exact ⟨_, rfl, _, _, _, [], _, [], hW', trodAll_mk1 (shut_bool Tryz.underlying4 _), (trodAll_cons_mk (Below.trod laidOut (by kernel_rfl) (of_decide_eq_true (by kernel_rfl)) k0 bel lt0) (trodAll_cons_mk (Below.trod laidOut (by kernel_rfl) (of_decide_eq_true (by kernel_rfl)) k1 bel lt1) (trodAll_cons_mk (Below.trod laidOut (by kernel_rfl) (of_decide_eq_true (by kernel_rfl)) k2 bel lt2) trodAll_mk0))), rfl, Below.frame bel _, fun h => by cases h⟩

theorem andT_mk {a b : Bool} (h1 : a = true) (h2 : b = true) : (a && b) = true := by rw [h1, h2]; rfl

set_option maxRecDepth 100000 in
set_option maxHeartbeats 8000000 in
theorem redoTwo_holds : Rows.RedoTwoSaid :=
  OpenClaim.holds_of_wide 6 Tryz.f6 rfl rfl rfl rfl rfl rfl rfl ⟨rfl, rfl, rfl, rfl, rfl⟩ rfl rfl rfl rfl rfl (by kernel_rfl) Tryz.func6 (by unfold joinedFacts; (with_reducible repeat' (refine andT_mk ?_ ?_)); all_goals (as_aux_lemma => kernel_rfl))
    (of_decide_eq_true (by kernel_rfl)) (by unfold Func.isWrapper; first | (rw [if_pos (by decide +kernel)]; kernel_rfl) | (rw [if_neg (by decide +kernel)]; exact ⟨rfl, rfl⟩))
    (fun os started H enc _ => redoTwo_lifted os started H enc)
#print axioms redoTwo_holds
end Go.Proofs.YtkioohhjjdlhiaaGreat
