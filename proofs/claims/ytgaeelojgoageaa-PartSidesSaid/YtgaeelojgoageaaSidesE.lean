/- PartSides: for every map of up to 400 cells that may be cut so, every cell and direction, the law returns true and leaves its arguments as they were. No condition. -/
import Derived.Test.YtgaeelojgoageaaSidesC
import Derived.Test.YtgaeelojgoageaaSidesD
namespace Go.Proofs.Ytgaeelojgoageaa
open Go.RowKit Go.ChangeShapes Go.WideShapes Go.ChangeAt

theorem sides_two (W H s x y dir : Int) (w : World) (hs : smallB W H s = true) (hi : inB W H x y = true) (d1 : 0 ≤ dir) (d2 : dir ≤ 3) (hn : inB W H (stepX x dir) (stepY y dir) = true) (hne : ofN W s (stepX x dir) (stepY y dir) ≠ ofN W s x y) :
    Calls Try.prog 8 #[.agg #[.int .i64 W, .int .i64 H, .int .i64 s], .agg #[.int .i64 x, .int .i64 y], .int .i64 dir] w fun e w' => e = .returned (.bool true) ∧ Ext w w' := by
  have hr := (smallB_true.1 hs).1
  have st := step_in hi
  have hstep : ∀ w, Calls Try.prog 35 #[.agg #[.int .i64 x, .int .i64 y], .int .i64 dir] w fun e w' => e = .returned (.agg #[.int .i64 (stepX x dir), .int .i64 (stepY y dir)]) ∧ Ext w w' := fun w => rStep_any x y dir w st.1 st.2
  by_cases hd : dir = 1 ∨ dir = 2
  · have hl : Left (x, y) (stepX x dir, stepY y dir) ∨ Above (x, y) (stepX x dir, stepY y dir) := by
      rcases hd with rfl | rfl
      · exact .inl ⟨by simp [stepX], by simp [stepY]⟩
      · exact .inr ⟨by simp [stepX], by simp [stepY]⟩
    obtain ⟨hP, k0, hk0, huni⟩ := border_has (p := (x, y)) (q := (stepX x dir, stepY y dir)) hr hi hn hl (fun e => hne e.symm)
    exact sides_main1 W H s x y (stepX x dir) (stepY y dir) dir (ofN W s x y) (ofN W s (stepX x dir) (stepY y dir)) w hs hr hi hd hstep (fun w => of_yes W H s x y w hr hi) (fun w => of_yes W H s _ _ w hr hn) hP k0 hk0 huni
  · have hd' : dir = 0 ∨ dir = 3 := by omega
    have hl : Left (stepX x dir, stepY y dir) (x, y) ∨ Above (stepX x dir, stepY y dir) (x, y) := by
      rcases hd' with rfl | rfl
      · exact .inr ⟨by simp [stepX], by simp [stepY]⟩
      · exact .inl ⟨by simp [stepX], by simp [stepY]⟩
    obtain ⟨hP, k0, hk0, huni⟩ := border_has (p := (stepX x dir, stepY y dir)) (q := (x, y)) hr hn hi hl hne
    exact sides_main2 W H s x y (stepX x dir) (stepY y dir) dir (ofN W s (stepX x dir) (stepY y dir)) (ofN W s x y) w hs hr hi hd' hstep (fun w => of_yes W H s x y w hr hi) (fun w => of_yes W H s _ _ w hr hn) hP k0 hk0 huni

theorem partSides_any (W H s x y dir : Int) (w : World) :
    Calls Try.prog 8 #[.agg #[.int .i64 W, .int .i64 H, .int .i64 s], .agg #[.int .i64 x, .int .i64 y], .int .i64 dir] w fun e w' => e = .returned (.bool true) ∧ Ext w w' := by
  by_cases h : smallB W H s = true ∧ 0 ≤ x ∧ 0 ≤ y ∧ x < W ∧ y < H ∧ 0 ≤ dir ∧ dir ≤ 3
  · obtain ⟨hs, i1, i2, i3, i4, d1, d2⟩ := h
    obtain ⟨h1, h2, h3, h4, h5, h6⟩ := rightB_true.1 (smallB_true.1 hs).1
    have hi : inB W H x y = true := inB_true.2 ⟨h1, h2, h3, h4, i1, i3, i2, i4⟩
    cases hn : inB W H (stepX x dir) (stepY y dir)
    · exact sides_off W H s x y dir w hs hi d1 d2 hn
    · by_cases he : ofN W s (stepX x dir) (stepY y dir) = ofN W s x y
      · exact sides_same W H s x y dir w hs hi d1 d2 hn he
      · exact sides_two W H s x y dir w hs hi d1 d2 hn he
  · exact sides_no W H s x y dir w h

set_option maxRecDepth 100000 in
theorem partSides_lifted (os : Os) (started : os.Started) (H : Type) (enc : TypeId × Value → H) :
    ReturnsInHanded {} Try.checked os 8 .any (Rows.partSidesSpec.pre6 enc Try.prog Try.f8 Rows.partSidesRow.domain false) (Rows.partSidesSpec.post enc Try.prog Try.f8 false true false false) := by
  refine returnsInHanded_of_change (C := Try.checked) own started (by kernel_rfl) Try.func8
    (ChangeSpec.witness6 (enc := enc) (C := Try.checked) false ⟨#[], #[.agg #[.int .i64 0, .int .i64 0, .int .i64 0], .agg #[.int .i64 0, .int .i64 0], .int .i64 0], []⟩ 8 (by kernel_rfl) (by kernel_rfl) (by kernel_rfl) (by kernel_rfl)) ?_
  intro W base args ds gs before hval0 hW hcnd hsz
  have hval : ∀ (j : Nat) t v, Try.f8.params[j]? = some t → args[j]? = some v → Value.okWide Try.prog W .any base t v := hval0
  have hW' := hW
  obtain ⟨p, q, hA0, hV, rfl, hfz, hnd⟩ := hW
  have hA : DataW.TrodAll enc Try.prog W 0 (fun _ => true) true Try.f8.params.toList args.toList ds p := hA0
  rw [Try.params8] at hA hval
  obtain ⟨v0, vs0, d0, ds0, p0, q0, hargs, rfl, rfl, h0, r0⟩ := trodAll_cons hA
  obtain ⟨v1, vs1, d1, ds1, p1, q1, rfl, rfl, rfl, h1, r1⟩ := trodAll_cons r0
  obtain ⟨v2, vs2, d2, ds2, p2, q2, rfl, rfl, rfl, h2, r2⟩ := trodAll_cons r1
  obtain ⟨rfl, rfl, rfl⟩ := trodAll_nil r2
  obtain rfl : args = #[v0, v1, v2] := by cases args; simp_all
  obtain ⟨rfl, rfl⟩ := trodVars_none hV
  have k0 := h0
  have lt0 : ∀ x ∈ p0, x.block < W.heap.size := by obtain ⟨m, hm⟩ := k0; exact DataW.trod_lt m _ _ _ hm
  have k1 := h1
  have lt1 : ∀ x ∈ p1, x.block < W.heap.size := by obtain ⟨m, hm⟩ := k1; exact DataW.trod_lt m _ _ _ hm
  have k2 := h2
  have lt2 : ∀ x ∈ p2, x.block < W.heap.size := by obtain ⟨m, hm⟩ := k2; exact DataW.trod_lt m _ _ _ hm
  obtain ⟨W0, H0, s0, rfl, iW0, iH0, is0⟩ := open_parts (hval 0 42 v0 rfl rfl) h0
  obtain ⟨x1, y1, rfl, ix1, iy1⟩ := open_cell (hval 1 44 v1 rfl rfl) h1
  obtain ⟨n2, rfl, rfl, rfl, wf2⟩ := open_int Try.underlying3 (hval 2 3 v2 rfl rfl) h2; have in2 := InI_wf wf2
  clear hA0 hval0
  refine (partSides_any W0 H0 s0 x1 y1 n2 W).mono fun e W' ⟨he, bel⟩ => ?_
  subst he
  exact ⟨_, rfl, _, _, _, [], _, [], hW', trodAll_mk1 (shut_bool Try.underlying4 _), (trodAll_cons_mk (Below.trod laidOut (by kernel_rfl) (of_decide_eq_true (by kernel_rfl)) k0 bel lt0) (trodAll_cons_mk (Below.trod laidOut (by kernel_rfl) (of_decide_eq_true (by kernel_rfl)) k1 bel lt1) (trodAll_cons_mk (Below.trod laidOut (by kernel_rfl) (of_decide_eq_true (by kernel_rfl)) k2 bel lt2) trodAll_mk0))), rfl, Below.frame bel _, fun h => by cases h⟩

theorem partSides_holds : Rows.PartSidesSaid :=
  OpenClaim.holds_of_wide 8 Try.f8 rfl rfl rfl rfl rfl rfl rfl ⟨rfl, rfl, rfl, rfl, rfl⟩ rfl rfl rfl rfl rfl (by kernel_rfl) Try.func8 (by kernel_rfl)
    (of_decide_eq_true (by kernel_rfl)) (by unfold Func.isWrapper; first | (rw [if_pos (by decide +kernel)]; kernel_rfl) | (rw [if_neg (by decide +kernel)]; exact ⟨rfl, rfl⟩))
    (fun os started H enc _ => partSides_lifted os started H enc)
#print axioms partSides_holds
end Go.Proofs.Ytgaeelojgoageaa
