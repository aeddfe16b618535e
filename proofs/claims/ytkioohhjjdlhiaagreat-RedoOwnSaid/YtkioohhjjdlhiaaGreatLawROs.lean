/- The law RedoOwn, as it is said: what was handed in, and what is told, is not the world's own, a clone goes its own way, which updates of another size, and cells off the map, are refused, and what a nil world tells. -/
import Derived.Test.YtkioohhjjdlhiaaGreatLawRO
import Derived.Test.YtkioohhjjdlhiaaGreatArgR
import Derived.Test.YtkioohhjjdlhiaaGreatArgI
set_option linter.all false
set_option linter.unusedVariables false
set_option linter.unusedSimpArgs false
namespace Go.Proofs.YtkioohhjjdlhiaaGreat
open Go.RowKit Go.ChangeShapes Go.WideShapes Go.ChangeAt

section
variable {H : Type} {enc : TypeId × Value → H} {w : World} {r : Reach} {base b0 : Nat} {spare : Nat → Bool} {held : Bool}
set_option maxRecDepth 100000 in
theorem cells_other : Tryz.prog.cellsOf 80 = 4 := by kernel_rfl
set_option maxRecDepth 100000 in
theorem open_other {v : Value} {d : DataW H} {p : List MemPlace} (hv : Value.okWide Tryz.prog w r b0 80 v) (h : DataW.Trod enc Tryz.prog w base spare held 80 v d p) :
  ∃ W2 H2 a l c ca cs cc, v = .agg #[.int .i64 W2, .int .i64 H2, .slice a (List.length l) c, .slice ca (List.length cs) cc] ∧ FieldV w W2 H2 a l ∧ CellsV w ca cs := by
 obtain ⟨cs, rfl, hsz⟩ := okWide_struct Tryz.underlying80 hv
 obtain ⟨l⟩ := cs
 rw [cells_other] at hsz
 match l, hsz with
 | [c0, c1, c2, c3], _ =>
  obtain ⟨fuel, hf⟩ := h
  obtain ⟨xs, n, _, _, _, hlen, hf⟩ := DataW.trod_struct Tryz.underlying80 hf
  match xs, hlen with
  | [y0, y1], _ =>
   obtain ⟨W2, H2, a, l, c, rfl, rfl, rfl, hF⟩ := open_field3 (c0 := c0) (c1 := c1) (c2 := c2) (hf 0 _ rfl)
   obtain ⟨ca, cc, cl, rfl, hC, _⟩ := open_cells (v := c3) (hf 1 _ rfl)
   exact ⟨W2, H2, a, l, c, ca, cl, cc, rfl, hF, hC⟩
end

set_option maxRecDepth 100000 in
theorem redoOwn_lifted (os : Os) (started : os.Started) (H : Type) (enc : TypeId × Value → H) :
  ReturnsInHanded {} Tryz.checked os 8 .any (Rows.redoOwnSpec.pre6 enc Tryz.prog Tryz.f8 Rows.redoOwnRow.domain false) (Rows.redoOwnSpec.post enc Tryz.prog Tryz.f8 false true false false) := by
 refine returnsInHanded_of_change (C := Tryz.checked) own started (by kernel_rfl) Tryz.func8
  (ChangeSpec.witness6 (enc := enc) (C := Tryz.checked) false ⟨#[], #[.agg #[.int .i64 0, .int .i64 0, .slice none 0 0], .int .i64 0, .agg #[.int .i64 0, .int .i64 0, .slice none 0 0, .slice none 0 0]], []⟩ 8 (by kernel_rfl) (by kernel_rfl) (by kernel_rfl) (by kernel_rfl)) ?_
 intro W base args ds gs before hval0 hW hcnd hsz
 have hval : ∀ (j : Nat) t v, Tryz.f8.params[j]? = some t → args[j]? = some v → Value.okWide Tryz.prog W .any base t v := hval0
 have hW' := hW
 obtain ⟨p, q, hA0, hV, rfl, hfz, hnd⟩ := hW
 have hA : DataW.TrodAll enc Tryz.prog W 0 (fun _ => true) true Tryz.f8.params.toList args.toList ds p := hA0
 rw [Tryz.params8] at hA hval
 obtain ⟨v0, vs0, d0, ds0, p0, q0, hargs, rfl, rfl, h0, r0⟩ := trodAll_cons hA
 obtain ⟨v1, vs1, d1, ds1, p1, q1, rfl, rfl, rfl, h1, r1⟩ := trodAll_cons r0
 obtain ⟨v2, vs2, d2, ds2, p2, q2, rfl, rfl, rfl, h2, r2⟩ := trodAll_cons r1
 obtain ⟨rfl, rfl, rfl⟩ := trodAll_nil r2
 obtain rfl : args = #[v0, v1, v2] := by cases args; simp_all
 obtain ⟨rfl, rfl⟩ := trodVars_none hV
 have k0 := h0
 have lt0 : ∀ x ∈ p0, x.block < W.heap.size := by obtain ⟨m, hm⟩ := k0; exact DataW.trod_lt m _ _ _ hm
 have k1 := h1
 have lt1 : ∀ x ∈ p1, x.block < W.heap.size := by obtain ⟨m, hm⟩ := k1; exact DataW.trod_lt m _ _ _ hm
 have k2 := h2
 have lt2 : ∀ x ∈ p2, x.block < W.heap.size := by obtain ⟨m, hm⟩ := k2; exact DataW.trod_lt m _ _ _ hm
 obtain ⟨W0, H0, a0, l0, c0, rfl, fv0⟩ := open_field (hval 0 26 v0 rfl rfl) h0
 obtain ⟨n1, rfl, rfl, rfl, wf1⟩ := open_int Tryz.underlying3 (hval 1 3 v1 rfl rfl) h1
 obtain ⟨ow2, oh2, oa2, ol2, oc2, od2, os2, oe2, rfl, ov2, oy2⟩ := open_other (hval 2 80 v2 rfl rfl) h2
 clear hA0 hval0
 refine (redoOwn_any W0 H0 a0 l0 c0 n1 ow2 oh2 oa2 ol2 oc2 od2 os2 oe2 fv0.2.2.2.1 fv0.2.2.2.2 ov2.2.2.2.1 ov2.2.2.2.2 oy2.2.1 oy2.2.2).mono fun e W' ⟨he, bel⟩ => ?_
 subst he
 exact ⟨_, rfl, _, _, _, [], _, [], hW', trodAll_mk1 (shut_bool Tryz.underlying4 _), (trodAll_cons_mk (Below.trod laidOut (by kernel_rfl) (of_decide_eq_true (by kernel_rfl)) k0 bel lt0) (trodAll_cons_mk (Below.trod laidOut (by kernel_rfl) (of_decide_eq_true (by kernel_rfl)) k1 bel lt1) (trodAll_cons_mk (Below.trod laidOut (by kernel_rfl) (of_decide_eq_true (by kernel_rfl)) k2 bel lt2) trodAll_mk0))), rfl, Below.frame bel _, fun h => by cases h⟩

theorem andT_mk {a b : Bool} (h1 : a = true) (h2 : b = true) : (a && b) = true := by rw [h1, h2]; rfl

set_option maxRecDepth 100000 in
set_option maxHeartbeats 8000000 in
theorem redoOwn_holds : Rows.RedoOwnSaid :=
 OpenClaim.holds_of_wide 8 Tryz.f8 rfl rfl rfl rfl rfl rfl rfl ⟨rfl, rfl, rfl, rfl, rfl⟩ rfl rfl rfl rfl rfl (by kernel_rfl) Tryz.func8 (by unfold joinedFacts; (with_reducible repeat' (refine andT_mk ?_ ?_)); all_goals (as_aux_lemma => kernel_rfl))
  (of_decide_eq_true (by kernel_rfl)) (by unfold Func.isWrapper; first | (rw [if_pos (by decide +kernel)]; kernel_rfl) | (rw [if_neg (by decide +kernel)]; exact ⟨rfl, rfl⟩))
  (fun os started H enc _ => redoOwn_lifted os started H enc)
#print axioms redoOwn_holds
end Go.Proofs.YtkioohhjjdlhiaaGreat
