/- The law InnerVia, as it is said. -/
import Derived.Test.YtifbmapianddcaaLawIV
import Derived.Test.YtifbmapianddcaaArgI
set_option linter.all false
set_option linter.unusedVariables false
set_option linter.unusedSimpArgs false
namespace Go.Proofs.Ytifbmapianddcaa
open Go.RowKit Go.ChangeShapes Go.WideShapes Go.ChangeAt

theorem innerVia_any {w : World} (W H : Int) (a : Option Addr) (l : List Int) (c : Nat) (PW PH s id : Int) (ca : Option Addr) (cs : List Cell) (cc : Nat) (tx ty : Int) (hr : Row16 w a l) (hu : U16s l) (hc : RowC w ca cs) (hi : ∀ p ∈ cs, InI p.1 ∧ InI p.2) :
    Calls Try.prog 9 #[.agg #[.int .i64 W, .int .i64 H, .slice a l.length c], .agg #[.int .i64 PW, .int .i64 PH, .int .i64 s], .agg #[.int .i64 id, .slice ca cs.length cc, .int .i64 tx, .int .i64 ty]] w fun e w' => e = .returned (.bool true) ∧ Ext w w' := by
  cases h : (decide (l.length ≤ 260) && decide (cs.length ≤ 60))
  · exact iv_far W H a l.length c PW PH s id ca cs.length cc tx ty (.inl h)
  · by_cases h30 : 30 < cs.length
    · exact iv_far W H a l.length c PW PH s id ca cs.length cc tx ty (.inr ⟨h, h30⟩)
    · have hl : cs.length ≤ 1000000 := by omega
      by_cases he : innerE W H l.length PW PH s id cs = 0
      · exact iv_ok c cc tx ty hr hu hc hl hi h h30 he
      · exact iv_bad W H a l.length c PW PH s id ca cs cc tx ty hc hl hi h h30 he

set_option maxRecDepth 100000 in
theorem innerVia_lifted (os : Os) (started : os.Started) (H : Type) (enc : TypeId × Value → H) :
    ReturnsInHanded {} Try.checked os 9 .any (Rows.innerViaSpec.pre6 enc Try.prog Try.f9 Rows.innerViaRow.domain false) (Rows.innerViaSpec.post enc Try.prog Try.f9 false true false false) := by
  refine returnsInHanded_of_change (C := Try.checked) own started (by kernel_rfl) Try.func9
    (ChangeSpec.witness6 (enc := enc) (C := Try.checked) false ⟨#[], #[.agg #[.int .i64 0, .int .i64 0, .slice none 0 0], .agg #[.int .i64 0, .int .i64 0, .int .i64 0], .agg #[.int .i64 0, .slice none 0 0, .int .i64 0, .int .i64 0]], []⟩ 8 (by kernel_rfl) (by kernel_rfl) (by kernel_rfl) (by kernel_rfl)) ?_
  intro W base args ds gs before hval0 hW hcnd hsz
  have hval : ∀ (j : Nat) t v, Try.f9.params[j]? = some t → args[j]? = some v → Value.okWide Try.prog W .any base t v := hval0
  have hW' := hW
  obtain ⟨p, q, hA0, hV, rfl, hfz, hnd⟩ := hW
  have hA : DataW.TrodAll enc Try.prog W 0 (fun _ => true) true Try.f9.params.toList args.toList ds p := hA0
  rw [Try.params9] at hA hval
  obtain ⟨v0, vs0, d0, ds0, p0, q0, hargs, rfl, rfl, h0, r0⟩ := trodAll_cons hA
  obtain ⟨v1, vs1, d1, ds1, p1, q1, rfl, rfl, rfl, h1, r1⟩ := trodAll_cons r0
  obtain ⟨v2, vs2, d2, ds2, p2, q2, rfl, rfl, rfl, h2, r2⟩ := trodAll_cons r1
  obtain ⟨rfl, rfl, rfl⟩ := trodAll_nil r2
  obtain rfl : args = #[v0, v1, v2] := by cases args; simp_all
  obtain ⟨rfl, rfl⟩ := trodVars_none hV
  have k0 := h0
  have lt0 : ∀ x ∈ p0, x.block < W.heap.size := by obtain ⟨m, hm⟩ := k0; exact DataW.trod_lt m _ _ _ hm
  have k1 := h1
  have lt1 : ∀ x ∈ p1, x.block < W.heap.size := by obtain ⟨m, hm⟩ := k1; exact DataW.trod_lt m _ _ _ hm
  have k2 := h2
  have lt2 : ∀ x ∈ p2, x.block < W.heap.size := by obtain ⟨m, hm⟩ := k2; exact DataW.trod_lt m _ _ _ hm
  obtain ⟨W0, H0, a0, l0, c0, rfl, fv0⟩ := open_field (hval 0 26 v0 rfl rfl) h0
  obtain ⟨W1, H1, s1, rfl, iW1, iH1, is1⟩ := open_parts (hval 1 51 v1 rfl rfl) h1
  obtain ⟨ci2, ca2, cc2, cl2, cx2, cy2, rfl, cv2⟩ := open_case13 (hval 2 53 v2 rfl rfl) h2
  clear hA0 hval0
  refine (innerVia_any W0 H0 a0 l0 c0 W1 H1 s1 ci2 ca2 cl2 cc2 cx2 cy2 fv0.2.2.2.1 fv0.2.2.2.2 cv2.2.2.2.1.2.1 cv2.2.2.2.1.2.2).mono fun e W' ⟨he, bel⟩ => ?_
  subst he
  exact ⟨_, rfl, _, _, _, [], _, [], hW', trodAll_mk1 (shut_bool Try.underlying4 _), (trodAll_cons_mk (Below.trod laidOut (by kernel_rfl) (of_decide_eq_true (by kernel_rfl)) k0 bel lt0) (trodAll_cons_mk (Below.trod laidOut (by kernel_rfl) (of_decide_eq_true (by kernel_rfl)) k1 bel lt1) (trodAll_cons_mk (Below.trod laidOut (by kernel_rfl) (of_decide_eq_true (by kernel_rfl)) k2 bel lt2) trodAll_mk0))), rfl, Below.frame bel _, fun h => by cases h⟩

theorem innerVia_holds : Rows.InnerViaSaid :=
  OpenClaim.holds_of_wide 9 Try.f9 rfl rfl rfl rfl rfl rfl rfl ⟨rfl, rfl, rfl, rfl, rfl⟩ rfl rfl rfl rfl rfl (by kernel_rfl) Try.func9 (by kernel_rfl)
    (of_decide_eq_true (by kernel_rfl)) (by unfold Func.isWrapper; first | (rw [if_pos (by decide +kernel)]; kernel_rfl) | (rw [if_neg (by decide +kernel)]; exact ⟨rfl, rfl⟩))
    (fun os started H enc _ => innerVia_lifted os started H enc)
#print axioms innerVia_holds
end Go.Proofs.Ytifbmapianddcaa
