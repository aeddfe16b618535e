/- SessOnce: for every number and every row of calls, the law returns true and leaves its arguments as they were. No condition. -/
import Derived.Test.YtgaeelojgoageaaOnceW
import Derived.Test.YtgaeelojgoageaaArgSl
namespace Go.Proofs.Ytgaeelojgoageaa
open Go.RowKit

set_option maxRecDepth 100000 in
theorem once_zero (most : Int) (a : Option Addr) (c : Nat) (w : World) (h1 : 1 ≤ most) (h2 : most ≤ 4) : Calls Try.prog 3 #[.int .i64 most, .slice a 0 c] w fun e w' => e = .returned (.bool true) ∧ Ext w w' := by
  go_enter Try.func3, Try.ntmps3
  go_wp2_with (go_at_call 9; refine (iNew most _ h1 h2).mono ?_; rintro x w1 ⟨d, n, e, rfl, i1⟩; have I1 := hide i1; clear i1)
  go_loopw [10] (fun i wr => i = .int .i64 0 ∧ Ext w wr) (fun _ _ => 0)
  case atStart => exact ⟨rfl, I1.out.bel⟩
  case round =>
    obtain ⟨rfl, hx⟩ := hrel
    go_wp2_with (go_at_call 10; refine (awake21_any _).mono ?_; rintro e w2 ⟨rfl, hb2⟩; obtain ⟨hc2, hf2⟩ := hb2.cells; have hz2 := hb2.size; (repeat (first | rw [World.size_alloc] at hz2 | rw [World.size_drew] at hz2)))
    go_ret
    exact ⟨rfl, Ext.trans hx (by (with_reducible (repeat' (first | exact Ext.refl _ | assumption | refine Ext.drew ?_ | refine Ext.drewN ?_ _ | refine Ext.alloc ?_ _ | refine Ext.setCell ?_ ?_ _ | refine Ext.trans ?_ (by assumption)))); all_goals (first | (simp; done) | (simp; omega)))⟩

/-- What came in as a row of calls. -/
def ActsV (w : World) (v : Value) : Prop := ∃ a len cap, v = .slice a len cap ∧ len ≤ maxLen ∧ (0 < len → ∃ b off, ∃ l : List (Int × Int), a = some ⟨b, off, none⟩ ∧ b < w.heap.size ∧ l.length = len ∧ ActsAt w b off l ∧ ∀ k (hk : k < l.length), U64 l[k].2)

theorem once_any (most : Int) (v : Value) (w : World) (hv : ActsV w v) : Calls Try.prog 3 #[.int .i64 most, v] w fun e w' => e = .returned (.bool true) ∧ Ext w w' := by
  by_cases hm : most < 1 ∨ 4 < most
  · exact once_no most v w hm
  · obtain ⟨a, len, cap, rfl, hl, h⟩ := hv
    by_cases h2 : (200 : Int) < (len : Int)
    · exact once_long most a len cap w (by omega) (by omega) h2
    · by_cases h0 : 0 < len
      · obtain ⟨b, off, l, rfl, hb, rfl, hA, hU⟩ := h h0
        exact once_plays most b off cap l w (by omega) (by omega) (by omega) hb hA hU
      · obtain rfl : len = 0 := by omega
        exact once_zero most a cap w (by omega) (by omega)

section
open Go.ChangeShapes Go.WideShapes Go.ChangeAt
variable {H : Type} {enc : TypeId × Value → H} {w : World} {r : Reach} {base b0 : Nat} {spare : Nat → Bool} {held : Bool}
theorem open_acts {v : Value} {d : DataW H} {p : List MemPlace} (hv : Value.okWide Try.prog w r b0 22 v) (h : DataW.Trod enc Try.prog w base spare held 22 v d p) : ActsV w v := by
  obtain ⟨a0, l0, c0, rfl⟩ := okWide_slice Try.underlying22 hv
  obtain ⟨fuel, hf⟩ := h
  rcases open_pairs2 Try.underlying22 Try.underlying31 (by kernel_rfl) ⟨rfl, rfl⟩ ⟨rfl, rfl⟩ Try.underlying3 Try.underlying29 (by kernel_rfl) (by kernel_rfl) hf with hc | ⟨a, len, cap, hc, hl, hp⟩
  · simp [Value.cells] at hc
    obtain ⟨rfl, rfl, rfl⟩ := hc
    exact ⟨none, 0, 0, rfl, Nat.zero_le _, fun h => by omega⟩
  · simp [Value.cells] at hc
    obtain ⟨rfl, rfl, rfl⟩ := hc
    refine ⟨_, _, _, rfl, hl, fun h0 => ?_⟩
    obtain ⟨b, off, l, h1, h2, h3, h4⟩ := hp h0
    exact ⟨b, off, l, h1, h2, h3, fun k hk => (h4 k hk).1, fun k hk => (h4 k hk).2.2⟩
end
open Go.ChangeShapes Go.WideShapes Go.ChangeAt
theorem own : ownKnob Try.prog.godebug = none := by kernel_rfl
theorem laidOut : laidOutB Try.prog = true := by kernel_rfl
set_option maxRecDepth 100000 in
theorem sessOnce_lifted (os : Os) (started : os.Started) (H : Type) (enc : TypeId × Value → H) :
    ReturnsInHanded {} Try.checked os 3 .any (Rows.sessOnceSpec.pre6 enc Try.prog Try.f3 Rows.sessOnceRow.domain false) (Rows.sessOnceSpec.post enc Try.prog Try.f3 false true false false) := by
  refine returnsInHanded_of_change (C := Try.checked) own started (by kernel_rfl) Try.func3
    (ChangeSpec.witness6 (enc := enc) (C := Try.checked) false ⟨#[], #[.int .i64 0, .slice none 0 0], []⟩ 8 (by kernel_rfl) (by kernel_rfl) (by kernel_rfl) (by kernel_rfl)) ?_
  intro W base args ds gs before hval0 hW hcnd hsz
  have hval : ∀ (j : Nat) t v, Try.f3.params[j]? = some t → args[j]? = some v → Value.okWide Try.prog W .any base t v := hval0
  have hW' := hW
  obtain ⟨p, q, hA0, hV, rfl, hfz, hnd⟩ := hW
  have hA : DataW.TrodAll enc Try.prog W 0 (fun _ => true) true Try.f3.params.toList args.toList ds p := hA0
  rw [Try.params3] at hA hval
  obtain ⟨v0, vs0, d0, ds0, p0, q0, hargs, rfl, rfl, h0, r0⟩ := trodAll_cons hA
  obtain ⟨v1, vs1, d1, ds1, p1, q1, rfl, rfl, rfl, h1, r1⟩ := trodAll_cons r0
  obtain ⟨rfl, rfl, rfl⟩ := trodAll_nil r1
  obtain rfl : args = #[v0, v1] := by cases args; simp_all
  obtain ⟨rfl, rfl⟩ := trodVars_none hV
  have k0 := h0
  have lt0 : ∀ x ∈ p0, x.block < W.heap.size := by obtain ⟨m, hm⟩ := k0; exact DataW.trod_lt m _ _ _ hm
  have k1 := h1
  have lt1 : ∀ x ∈ p1, x.block < W.heap.size := by obtain ⟨m, hm⟩ := k1; exact DataW.trod_lt m _ _ _ hm
  obtain ⟨n0, rfl, rfl, rfl, wf0⟩ := open_int Try.underlying3 (hval 0 3 v0 rfl rfl) h0
  have a1 := open_acts (hval 1 22 v1 rfl rfl) h1
  clear hA0 hval0
  refine (once_any n0 v1 W a1).mono fun e W' ⟨he, bel⟩ => ?_
  subst he
  exact ⟨_, rfl, _, _, _, [], _, [], hW', trodAll_mk1 (shut_bool Try.underlying4 _), (trodAll_cons_mk (Below.trod laidOut (by kernel_rfl) (of_decide_eq_true (by kernel_rfl)) k0 bel lt0) (trodAll_cons_mk (Below.trod laidOut (by kernel_rfl) (of_decide_eq_true (by kernel_rfl)) k1 bel lt1) trodAll_mk0)), rfl, Below.frame bel _, fun h => by cases h⟩

theorem sessOnce_holds : Rows.SessOnceSaid :=
  OpenClaim.holds_of_wide 3 Try.f3 rfl rfl rfl rfl rfl rfl rfl ⟨rfl, rfl, rfl, rfl, rfl⟩ rfl rfl rfl rfl rfl (by kernel_rfl) Try.func3 (by kernel_rfl)
    (of_decide_eq_true (by kernel_rfl)) (by unfold Func.isWrapper; first | (rw [if_pos (by decide +kernel)]; kernel_rfl) | (rw [if_neg (by decide +kernel)]; exact ⟨rfl, rfl⟩))
    (fun os started H enc _ => sessOnce_lifted os started H enc)
#print axioms sessOnce_holds
end Go.Proofs.Ytgaeelojgoageaa
