/- GateRuns: for every field of up to 260 costs, every parts and any two clusters, the law returns true and leaves its arguments as they were. No condition. -/
import Derived.Test.YtkonojjillcfiaaLawGR
namespace Go.Proofs.Ytkonojjillcfiaa
open Go.RowKit Go.ChangeShapes Go.WideShapes Go.ChangeAt

theorem gateRuns_any (W H : Int) (a : Option Addr) (l : List Int) (c : Nat) (pW pH s x y : Int) (w : World) (hr : Row16 w a l) (hu : U16s l) :
    Calls Try.prog 4 #[.agg #[.int .i64 W, .int .i64 H, .slice a l.length c], .agg #[.int .i64 pW, .int .i64 pH, .int .i64 s], .agg #[.int .i64 x, .int .i64 y]] w fun e w' => e = .returned (.bool true) ∧ Ext w w' := by
  by_cases hn : (l.length : Int) ≤ 260
  · by_cases hc0 : checkE W H l.length = 0
    · by_cases he : pW = W ∧ pH = H
      · obtain ⟨rfl, rfl⟩ := he
        cases ht : rightB pW pH s
        · refine gr_err pW pH a l.length c s x y 1 w hn hc0 (by decide) (fun w => ?_)
          have e1 : hasE pW pH s [x, y] = 1 := by simp [hasE, ht]
          have h := Border_err pW pH s x y w (by rw [e1]; rfl)
          rwa [e1] at h
        · by_cases hx : 0 ≤ x ∧ x < cnt pW pH s
          · by_cases hy : 0 ≤ y ∧ y < cnt pW pH s
            · cases hne : hasI (besideL pW pH s (min x y)) (max x y)
              · exact gr_err pW pH a l.length c s x y 1 w hn hc0 (by decide) (fun w => Border_arg pW pH s x y w ht hx.1 hx.2 hy.1 hy.2 hne)
              · have hlt := ne_of_beside ht hne
                have hp := (near_pair ht (show 0 ≤ min x y by omega) hlt (by omega)).1 hne
                have l2 : (bords pW pH s x y).length ≤ 16 := borderL_len ht (by omega) (by omega)
                refine gr_run pW pH a l c s x y (min x y) (max x y) (bords pW pH s x y) (pick (bords pW pH s x y) (gatesI (opB l pW (bords pW pH s x y)) (bords pW pH s x y).length 0)) w hn hc0 hr hu ht (by omega) (fun w hw => ?_) (fun w => Border_yes pW pH s x y w ht hx.1 hx.2 hy.1 hy.2 hne) (borderL_pos ht (by omega) (by omega)) l2 rfl ?_ (fun k p hk => ?_) (fun d k q hd hk => border_inj ht hp d k q hd hk)
                · rw [gates_all]
                  exact gtBetween_near pW pH a l c s x y w hc0 hw ht hx.1 hx.2 hy.1 hy.2 hne
                · rw [gates_all]
                  have := pick_len (opB l pW (bords pW pH s x y)) (bords pW pH s x y) (bords pW pH s x y).length
                  omega
                · obtain ⟨z1, z2, z3, z4, _⟩ := border_at ht hp hk
                  exact ⟨border_in ht (by omega) hlt (by omega) hne k p hk, z1, z2, z3, z4⟩
            · exact gr_err pW pH a l.length c s x y 10 w hn hc0 (by decide) (fun w => Border_range pW pH s x y w ht (.inr hy))
          · exact gr_err pW pH a l.length c s x y 10 w hn hc0 (by decide) (fun w => Border_range pW pH s x y w ht (.inl hx))
      · exact gr_size W H a l.length c pW pH s x y w hn hc0 he
    · exact gr_chk W H a l.length c pW pH s x y w hn hc0
  · exact gr_far W H a l.length c pW pH s x y w hn

set_option maxRecDepth 100000 in
theorem gateRuns_lifted (os : Os) (started : os.Started) (H : Type) (enc : TypeId × Value → H) :
    ReturnsInHanded {} Try.checked os 4 .any (Rows.gateRunsSpec.pre6 enc Try.prog Try.f4 Rows.gateRunsRow.domain false) (Rows.gateRunsSpec.post enc Try.prog Try.f4 false true false false) := by
  refine returnsInHanded_of_change (C := Try.checked) own started (by kernel_rfl) Try.func4
    (ChangeSpec.witness6 (enc := enc) (C := Try.checked) false ⟨#[], #[.agg #[.int .i64 0, .int .i64 0, .slice none 0 0], .agg #[.int .i64 0, .int .i64 0, .int .i64 0], .agg #[.int .i64 0, .int .i64 0]], []⟩ 8 (by kernel_rfl) (by kernel_rfl) (by kernel_rfl) (by kernel_rfl)) ?_
  intro W base args ds gs before hval0 hW hcnd hsz
  have hval : ∀ (j : Nat) t v, Try.f4.params[j]? = some t → args[j]? = some v → Value.okWide Try.prog W .any base t v := hval0
  have hW' := hW
  obtain ⟨p, q, hA0, hV, rfl, hfz, hnd⟩ := hW
  have hA : DataW.TrodAll enc Try.prog W 0 (fun _ => true) true Try.f4.params.toList args.toList ds p := hA0
  rw [Try.params4] at hA hval
  obtain ⟨v0, vs0, d0, ds0, p0, q0, hargs, rfl, rfl, h0, r0⟩ := trodAll_cons hA
  obtain ⟨v1, vs1, d1, ds1, p1, q1, rfl, rfl, rfl, h1, r1⟩ := trodAll_cons r0
  obtain ⟨v2, vs2, d2, ds2, p2, q2, rfl, rfl, rfl, h2, r2⟩ := trodAll_cons r1
  obtain ⟨rfl, rfl, rfl⟩ := trodAll_nil r2
  obtain rfl : args = #[v0, v1, v2] := by cases args; simp_all
  obtain ⟨rfl, rfl⟩ := trodVars_none hV
  have k0 := h0
  have lt0 : ∀ x ∈ p0, x.block < W.heap.size := by obtain ⟨m, hm⟩ := k0; exact DataW.trod_lt m _ _ _ hm
  have k1 := h1
  have lt1 : ∀ x ∈ p1, x.block < W.heap.size := by obtain ⟨m, hm⟩ := k1; exact DataW.trod_lt m _ _ _ hm
  have k2 := h2
  have lt2 : ∀ x ∈ p2, x.block < W.heap.size := by obtain ⟨m, hm⟩ := k2; exact DataW.trod_lt m _ _ _ hm
  obtain ⟨W0, H0, a0, l0, c0, rfl, fv0⟩ := open_field (hval 0 26 v0 rfl rfl) h0
  obtain ⟨W1, H1, s1, rfl, iW1, iH1, is1⟩ := open_parts (hval 1 28 v1 rfl rfl) h1
  obtain ⟨x2, y2, rfl, ix2, iy2⟩ := open_arr2 (hval 2 29 v2 rfl rfl) h2
  clear hA0 hval0
  refine (gateRuns_any W0 H0 a0 l0 c0 W1 H1 s1 x2 y2 W fv0.2.2.2.1 fv0.2.2.2.2).mono fun e W' ⟨he, bel⟩ => ?_
  subst he
  exact ⟨_, rfl, _, _, _, [], _, [], hW', trodAll_mk1 (shut_bool Try.underlying4 _), (trodAll_cons_mk (Below.trod laidOut (by kernel_rfl) (of_decide_eq_true (by kernel_rfl)) k0 bel lt0) (trodAll_cons_mk (Below.trod laidOut (by kernel_rfl) (of_decide_eq_true (by kernel_rfl)) k1 bel lt1) (trodAll_cons_mk (Below.trod laidOut (by kernel_rfl) (of_decide_eq_true (by kernel_rfl)) k2 bel lt2) trodAll_mk0))), rfl, Below.frame bel _, fun h => by cases h⟩

theorem gateRuns_holds : Rows.GateRunsSaid :=
  OpenClaim.holds_of_wide 4 Try.f4 rfl rfl rfl rfl rfl rfl rfl ⟨rfl, rfl, rfl, rfl, rfl⟩ rfl rfl rfl rfl rfl (by kernel_rfl) Try.func4 (by kernel_rfl)
    (of_decide_eq_true (by kernel_rfl)) (by unfold Func.isWrapper; first | (rw [if_pos (by decide +kernel)]; kernel_rfl) | (rw [if_neg (by decide +kernel)]; exact ⟨rfl, rfl⟩))
    (fun os started H enc _ => gateRuns_lifted os started H enc)
#print axioms gateRuns_holds
end Go.Proofs.Ytkonojjillcfiaa
