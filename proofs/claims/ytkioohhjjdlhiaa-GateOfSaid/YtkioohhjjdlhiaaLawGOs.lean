/- GateOf: for every field, parts and number, the law returns true. No condition. -/
import Derived.Test.YtkioohhjjdlhiaaLawGO
import Derived.Test.YtkioohhjjdlhiaaArgF
set_option linter.all false
set_option linter.unusedVariables false
set_option linter.unusedSimpArgs false
namespace Go.Proofs.Ytkioohhjjdlhiaa
open Go.RowKit

theorem gateOf_any (W H : Int) (a : Option Addr) (l : List Int) (c : Nat) (pW pH s id : Int) (w : World) (hr : Row16 w a l) (hu : U16s l) :
    Calls Try.prog 3 #[.agg #[.int .i64 W, .int .i64 H, .slice a l.length c], .agg #[.int .i64 pW, .int .i64 pH, .int .i64 s], .int .i64 id] w fun e w' => e = .returned (.bool true) ∧ Ext w w' := by
  by_cases hn : (l.length : Int) ≤ 260
  · by_cases hc0 : checkE W H l.length = 0
    · by_cases he : pW = W ∧ pH = H
      · obtain ⟨rfl, rfl⟩ := he
        have hg : gateE pW pH pW pH l.length = 0 := by simp [gateE, hc0]
        cases ht : rightB pW pH s
        · exact go_bad pW pH a l c pW pH s id 1 w hn hr (by decide) (by simp [mayE, hc0, ht]) (by simp [ofErr, hg, ht]) (by simp [ofAll, hg, ht])
        · by_cases hx : id < 0 ∨ (((boxesAll pW pH s).length : Nat) : Int) ≤ id
          · exact go_range pW pH a l c s id _ w hn hc0 hr hu ht rfl hx
          · obtain ⟨k, rfl⟩ : ∃ k : Nat, id = (k : Int) := ⟨id.toNat, by omega⟩
            exact go_main pW pH a l c s k _ w hn hc0 hr hu ht rfl (by omega)
      · have eg : gateE W H pW pH l.length = 1 := by simp only [gateE, hc0, if_true, if_neg he]
        refine go_bad W H a l c pW pH s id 1 w hn hr (by decide) ?_ (by simp [ofErr, eg]) (by simp [ofAll, eg])
        simp only [mayE, hc0, if_true]
        rw [if_neg (fun h => he ⟨h.1, h.2.1⟩)]
    · have eg : gateE W H pW pH l.length = checkE W H l.length := by simp only [gateE, if_neg hc0]
      exact go_bad W H a l c pW pH s id _ w hn hr hc0 (by simp only [mayE, if_neg hc0]) (by simp only [ofErr, eg, if_neg hc0]) (by simp only [ofAll, eg, if_neg hc0])
  · exact go_far W H a l.length c pW pH s id w hn

open Go.ChangeShapes Go.WideShapes Go.ChangeAt
set_option maxRecDepth 100000 in
theorem gateOf_lifted (os : Os) (started : os.Started) (H : Type) (enc : TypeId × Value → H) :
    ReturnsInHanded {} Try.checked os 3 .any (Rows.gateOfSpec.pre6 enc Try.prog Try.f3 Rows.gateOfRow.domain false) (Rows.gateOfSpec.post enc Try.prog Try.f3 false true false false) := by
  refine returnsInHanded_of_change (C := Try.checked) own started (by kernel_rfl) Try.func3
    (ChangeSpec.witness6 (enc := enc) (C := Try.checked) false ⟨#[], #[.agg #[.int .i64 0, .int .i64 0, .slice none 0 0], .agg #[.int .i64 0, .int .i64 0, .int .i64 0], .int .i64 0], []⟩ 8 (by kernel_rfl) (by kernel_rfl) (by kernel_rfl) (by kernel_rfl)) ?_
  intro W base args ds gs before hval0 hW hcnd hsz
  have hval : ∀ (j : Nat) t v, Try.f3.params[j]? = some t → args[j]? = some v → Value.okWide Try.prog W .any base t v := hval0
  have hW' := hW
  obtain ⟨p, q, hA0, hV, rfl, hfz, hnd⟩ := hW
  have hA : DataW.TrodAll enc Try.prog W 0 (fun _ => true) true Try.f3.params.toList args.toList ds p := hA0
  rw [Try.params3] at hA hval
  obtain ⟨v0, vs0, d0, ds0, p0, q0, hargs, rfl, rfl, h0, r0⟩ := trodAll_cons hA
  obtain ⟨v1, vs1, d1, ds1, p1, q1, rfl, rfl, rfl, h1, r1⟩ := trodAll_cons r0
  obtain ⟨v2, vs2, d2, ds2, p2, q2, rfl, rfl, rfl, h2, r2⟩ := trodAll_cons r1
  obtain ⟨rfl, rfl, rfl⟩ := trodAll_nil r2
  obtain rfl : args = #[v0, v1, v2] := by cases args; simp_all
  obtain ⟨rfl, rfl⟩ := trodVars_none hV
  have k0 := h0
  have lt0 : ∀ x ∈ p0, x.block < W.heap.size := by obtain ⟨m, hm⟩ := k0; exact DataW.trod_lt m _ _ _ hm
  have k1 := h1
  have lt1 : ∀ x ∈ p1, x.block < W.heap.size := by obtain ⟨m, hm⟩ := k1; exact DataW.trod_lt m _ _ _ hm
  have k2 := h2
  have lt2 : ∀ x ∈ p2, x.block < W.heap.size := by obtain ⟨m, hm⟩ := k2; exact DataW.trod_lt m _ _ _ hm
  obtain ⟨W0, H0, a0, l0, c0, rfl, fv0⟩ := open_field (hval 0 26 v0 rfl rfl) h0
  obtain ⟨W1, H1, s1, rfl, iW1, iH1, is1⟩ := open_parts (hval 1 28 v1 rfl rfl) h1
  obtain ⟨n2, rfl, rfl, rfl, wf2⟩ := open_int Try.underlying3 (hval 2 3 v2 rfl rfl) h2
  clear hA0 hval0
  refine (gateOf_any W0 H0 a0 l0 c0 W1 H1 s1 n2 W fv0.2.2.2.1 fv0.2.2.2.2).mono fun e W' ⟨he, bel⟩ => ?_
  subst he
  exact ⟨_, rfl, _, _, _, [], _, [], hW', trodAll_mk1 (shut_bool Try.underlying4 _), (trodAll_cons_mk (Below.trod laidOut (by kernel_rfl) (of_decide_eq_true (by kernel_rfl)) k0 bel lt0) (trodAll_cons_mk (Below.trod laidOut (by kernel_rfl) (of_decide_eq_true (by kernel_rfl)) k1 bel lt1) (trodAll_cons_mk (Below.trod laidOut (by kernel_rfl) (of_decide_eq_true (by kernel_rfl)) k2 bel lt2) trodAll_mk0))), rfl, Below.frame bel _, fun h => by cases h⟩

theorem gateOf_holds : Rows.GateOfSaid :=
  OpenClaim.holds_of_wide 3 Try.f3 rfl rfl rfl rfl rfl rfl rfl ⟨rfl, rfl, rfl, rfl, rfl⟩ rfl rfl rfl rfl rfl (by kernel_rfl) Try.func3 (by kernel_rfl)
    (of_decide_eq_true (by kernel_rfl)) (by unfold Func.isWrapper; first | (rw [if_pos (by decide +kernel)]; kernel_rfl) | (rw [if_neg (by decide +kernel)]; exact ⟨rfl, rfl⟩))
    (fun os started H enc _ => gateOf_lifted os started H enc)
#print axioms gateOf_holds
end Go.Proofs.Ytkioohhjjdlhiaa
