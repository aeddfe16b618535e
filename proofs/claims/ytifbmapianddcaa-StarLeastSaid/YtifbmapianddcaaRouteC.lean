/- Walk of Check, of layer 9, at a path that is one. -/
import Derived.Test.YtifbmapianddcaaRouteB
import Derived.Test.YtifbmapianddcaaFloodN
import Derived.ScopeJumps
import Derived.WalkMore
set_option linter.all false
set_option linter.unusedVariables false
set_option linter.unusedSimpArgs false
namespace Go.Proofs.Ytifbmapianddcaa
open Go.RowKit
attribute [local go_sem] Oper.semAt_some

/-- Cells that are a path on a map. -/
structure GoodPath (W H : Int) (l : List Int) (p : List Cell) : Prop where
  pos : 0 < p.length
  few : p.length ≤ 100000
  on : ∀ k, k < p.length → inB W H (p.getD k (0, 0)).1 (p.getD k (0, 0)).2 = true ∧ 0 < l.getD (idxN W (p.getD k (0, 0))) 0
  side : ∀ k, 0 < k → k < p.length → p.getD k (0, 0) ∈ (fourC (p.getD (k - 1) (0, 0)).1 (p.getD (k - 1) (0, 0)).2).map (·.2)

theorem stepsL_pre {p : List Cell} {pre : List (Cell × Cell)} {x : Cell × Cell} (h : pre ++ [x] <+: stepsL p) : pre.length < p.length ∧ x = (p.getD (pre.length - 1) (0, 0), p.getD pre.length (0, 0)) := by
  obtain ⟨r, hr⟩ := h
  have hl := congrArg List.length hr
  rw [stepsL_len] at hl
  simp at hl
  have hk : pre.length < p.length := by omega
  refine ⟨hk, ?_⟩
  have h1 : (stepsL p)[pre.length]? = some x := by
    rw [← hr, List.append_assoc, List.getElem?_append_right (Nat.le_refl _)]
    simp
  simp only [stepsL, List.getElem?_map, List.getElem?_range hk, Option.map_some, Option.some.injEq] at h1
  exact h1.symm

/-- What a round of Check keeps. -/
def ChkI (w w4 : World) (fb eb : Nat) (W H : Int) (a : Option Addr) (n c : Nat) (T : Nat → Prop) (pre : List (Cell × Cell)) (W1 : World) : Prop :=
  (∀ k, T k → w4.heap.size ≤ k) ∧ Ext w W1 ∧ w4.heap.size ≤ W1.heap.size ∧ Blk W1 w.heap.size 26 #[.int .i64 W, .int .i64 H, .slice a n c] ∧ Blk W1 fb 4 #[.bool (decide (pre = []))] ∧ Blk W1 eb 34 #[.int .i64 0]

set_option maxRecDepth 100000 in
set_option maxHeartbeats 4000000 in
theorem rtCheck_ok {w : World} {W H : Int} {a : Option Addr} {l : List Int} (c : Nat) {pa : Option Addr} {p : List Cell} (pc : Nat) (hck : checkE W H l.length = 0) (hr : Row16 w a l) (hc : RowC w pa p) (G : GoodPath W H l p) :
    Calls Try.prog 22 #[.agg #[.int .i64 W, .int .i64 H, .slice a l.length c], .slice pa p.length pc] w fun e w' => e = .returned (.int .i64 0) ∧ Ext w w' := by
  obtain ⟨b, off, rfl, hb, hcc⟩ := hc G.pos
  have HC := hide (show RowC w (some ⟨b, off, none⟩) p from fun _ => ⟨b, off, rfl, hb, hcc⟩)
  have HG := hide G
  have HR := hide hr
  have wh := mayB_true.1 (checkE_ok.1 hck).1
  have hlen := (checkE_ok.1 hck).2
  have HF := hide (fun w' => gCheck_any W H a l.length c w')
  rw [hck] at HF
  have HI := hide (fun (x y : Int) w' => in_any W H x y w')
  have hp0 := G.pos
  have hpf := G.few
  obtain ⟨m, hm⟩ : ∃ z, p.length = z := ⟨_, rfl⟩
  obtain ⟨n, hn⟩ : ∃ z, l.length = z := ⟨_, rfl⟩
  have HMM := hide hm
  have HNN := hide hn
  rw [hn] at HF hlen ⊢
  rw [hm] at hp0 hpf ⊢
  have hm0 : ((m : Int) == 0) = false := by rw [beq_eq_false_iff_ne]; omega
  clear hck hr hc G hcc hm hn
  refine callsIn_wide.1 (callsIn_of_wp_marks (n := 4) Try.func22 rfl trivial ((wpIn_wide (n := 4)).2 ?_))
  simp only [Try.ntmps22, List.size_toArray, List.length_cons, List.length_nil, Nat.reduceAdd, Nat.reduceSub, Array.replicate_succ, Array.replicate_zero, List.push_toArray, List.append_toArray, List.nil_append, List.cons_append]
  generalize hQ : bodyPostM _ _ _ _ _ = Q'
  have HQ := hide hQ
  clear hQ
  go_wp2_with fail
  apply wp_scope_straight
  go_wp2_with fail
  refine (HF.out _).mono ?_
  rintro e w1 ⟨rfl, hb1⟩
  have B0 : Hid (Blk w1 (w.heap.size) 26 #[.int .i64 W, .int .i64 H, .slice a n c]) := hide (by refine Blk.ext ?_ hb1; (repeat' (first | exact Blk.new_ (by simp) | refine Blk.drew ?_ | refine Blk.over ?_)))
  have X1 := hide (show Ext w w1 from (by (with_reducible (repeat' (first | exact Ext.refl _ | assumption | refine Ext.drew ?_ | refine Ext.drewN ?_ _ | refine Ext.alloc ?_ _ | refine Ext.setCell ?_ ?_ _ | refine Ext.trans ?_ (by assumption)))); all_goals (first | (simp; done) | (simp; omega))))
  clear hb1
  go_wp2_with fail
  obtain ⟨w2, hw2⟩ : ∃ z, z = (w1.alloc (.cells #[.bool true] 4)).alloc (.cells #[.int .i64 0] 34) := ⟨_, rfl⟩
  have hx2 : Ext w1 w2 := by rw [hw2]; exact (by (with_reducible (repeat' (first | exact Ext.refl _ | assumption | refine Ext.drew ?_ | refine Ext.drewN ?_ _ | refine Ext.alloc ?_ _ | refine Ext.setCell ?_ ?_ _ | refine Ext.trans ?_ (by assumption)))); all_goals (first | (simp; done) | (simp; omega)))
  have z2 : w2.heap.size = w1.heap.size + 2 := by rw [hw2]; simp
  have C0 := hide (B0.out.ext hx2)
  have CF := hide (show Blk w2 w1.heap.size 4 #[.bool true] by rw [hw2]; exact (Blk.new_ rfl).over)
  have CE := hide (show Blk w2 (w1.heap.size + 1) 34 #[.int .i64 0] by rw [hw2]; exact Blk.new_ (by simp))
  have X2 := hide (X1.out.trans hx2)
  have zz1 : w.heap.size < w1.heap.size := B0.out.lt
  rw [← hw2]
  obtain ⟨fb, hfb⟩ : ∃ z, w1.heap.size = z := ⟨_, rfl⟩
  rw [hfb] at z2 CF CE zz1 ⊢
  clear hw2 hx2 B0 X1 hfb
  have Z2 := hide z2
  clear z2
  go_step3
  go_wp2_with fail
  refine (rtSteps_any _ _ _ _).mono ?_
  rintro e w4 ⟨rfl, hw4⟩
  have h24 : Ext w2 w4 := by rw [hw4]; exact (Ext.refl _).alloc _
  have z4 : w4.heap.size = w2.heap.size + 1 := by rw [hw4]; simp
  have BP := hide (show Blk w4 w2.heap.size 37 #[.slice (some ⟨b, off, none⟩) m pc] by rw [hw4]; exact Blk.new_ rfl)
  have D0 := hide (C0.out.ext h24)
  have DF := hide (CF.out.ext h24)
  have DE := hide (CE.out.ext h24)
  have X4 := hide (X2.out.trans h24)
  clear hw4 h24 C0 CF CE X2
  have Z4 := hide z4
  clear z4
  go_wp2_with fail
  have z2 := Z2.out
  have z4 := Z4.out
  have hseq := rtSteps1_iter (w := w4) (p := p) (by rw [HMM.out]; omega) (bp := w2.heap.size) (b := b) (off := off) (cc := pc) (R := fun k => k = w2.heap.size ∨ k = b) (by rw [HMM.out]; exact BP.out) (.inl rfl) (.inr rfl) (HC.out.ext X4.out) (fun k hk => by omega)
  have eg : ∀ args w, (callFunc 122 args).run Try.prog w = .ok (.enter 122 args) w := enters_of Try.func122 (by kernel_rfl) rfl
  refine (wpIn_wide (n := 4)).1 ?_
  refine wp_range_bb (g := .tmp 21) (p1 := 22) (p2 := 23) (b1 := 8) (b2 := 9) (u := fun q : Cell × Cell => .agg #[.int .i64 q.1.1, .int .i64 q.1.2]) (v := fun q : Cell × Cell => .agg #[.int .i64 q.2.1, .int .i64 q.2.2]) (cs1 := fun q : Cell × Cell => #[.int .i64 q.1.1, .int .i64 q.1.2]) (cs2 := fun q : Cell × Cell => #[.int .i64 q.2.1, .int .i64 q.2.2]) (t := 28) (gf := 122) rfl eg hseq (fun _ => rfl)
    (ChkI w w4 fb (fb + 1) W H a n c) (fun k hk => by omega) ?hO ?hA ?hE ?hS ⟨fun _ h => h.elim, X4.out, Nat.le_refl _, D0.out, DF.out, DE.out⟩ ?assign ?body ?done
  case hO =>
    rintro T pre W1 W2 ⟨i1, i2, i3, i4, i5, i6⟩ tt
    exact ⟨i1, ((Touch.of_ext (S := fun _ => False) i2).after tt (fun k hk h => by omega)).ext, Nat.le_trans i3 tt.size, i4.touch tt (fun h => by omega), i5.touch tt (fun h => by omega), i6.touch tt (fun h => by omega)⟩
  case hA =>
    rintro T pre W1 o ⟨i1, i2, i3, i4, i5, i6⟩
    exact ⟨fun k hk => hk.elim (i1 k) (fun e => by omega), i2.alloc _, by simp; omega, i4.over, i5.over, i6.over⟩
  case hE =>
    rintro T pre W1 W2 ⟨i1, i2, i3, i4, i5, i6⟩ e
    exact ⟨i1, i2.trans e, Nat.le_trans i3 e.size, i4.ext e, i5.ext e, i6.ext e⟩
  case hS =>
    rintro T pre W1 q u ⟨i1, i2, i3, i4, i5, i6⟩ hq
    have tt : Touch (fun k => k = q.block) W1 (W1.setCell q u) := (Touch.refl (fun k => k = q.block) W1).setCell (.inl rfl) u
    have hqb := i1 _ hq
    exact ⟨i1, i2.setCell (by omega) _, Nat.le_trans i3 tt.size, i4.touch tt (fun h => by omega), i5.touch tt (fun h => by omega), i6.touch tt (fun h => by omega)⟩
  case assign =>
    intro q W1 K hK
    clear z2 z4
    simp only [List.setIfInBounds_toArray, List.set_cons_zero, List.set_cons_succ] at hK ⊢
    gi_wp2
    exact hK W1.heap.size (W1.heap.size + 1) _ (by (with_reducible (repeat' (first | exact Ext.refl _ | assumption | refine Ext.drew ?_ | refine Ext.drewN ?_ _ | refine Ext.alloc ?_ _ | refine Ext.setCell ?_ ?_ _ | refine Ext.trans ?_ (by assumption)))); all_goals (first | (simp; done) | (simp; omega))) ((Blk.new_ rfl).over : Blk ((W1.alloc (.cells #[.int .i64 q.1.1, .int .i64 q.1.2] 28)).alloc (.cells #[.int .i64 q.2.1, .int .i64 q.2.2] 28)) W1.heap.size 28 #[.int .i64 q.1.1, .int .i64 q.1.2]) (Blk.new_ (by simp)) (Nat.le_refl _) (by omega)
  case body =>
    rintro T pre x B1 B2 W1 ⟨i1, i2, i3, i4, i5, i6⟩ hx1 hx2 hz1 hz2' hz2 hpre
    obtain ⟨hkl, hxe⟩ := stepsL_pre hpre
    obtain ⟨k, hk⟩ : ∃ z, pre.length = z := ⟨_, rfl⟩
    rw [hk] at hkl hxe
    have hon := HG.out.on k hkl
    have hon1 := HG.out.on (k - 1) (by omega)
    have hsd := HG.out.side k
    have hkm := hkl
    obtain ⟨⟨qx, qy⟩, hq⟩ : ∃ z, p.getD k (0, 0) = z := ⟨_, rfl⟩
    obtain ⟨⟨ux, uy⟩, hu⟩ : ∃ z, p.getD (k - 1) (0, 0) = z := ⟨_, rfl⟩
    rw [hq] at hxe hon hsd
    rw [hu] at hxe hon1 hsd
    subst hxe
    simp only at hon hon1 hsd hx1 hx2 ⊢
    have bq := inB_true.1 hon.1
    have bu := inB_true.1 hon1.1
    have HD := hide (fun w' => gDir_any (w := w') ux uy qx qy (by omega) (by omega) (by omega) (by omega))
    have HIN := hide (fun w' => HI.out qx qy w')
    rw [hon.1] at HIN
    obtain ⟨J, hJ⟩ : ∃ z, idxN W (qx, qy) = z := ⟨_, rfl⟩
    have hi2 := idx_int (W := W) (x := qx) (y := qy) (by omega) (by omega) (by omega)
    rw [hJ] at hi2 hon
    have m1 := mul_bd (a := qy) (b := W) (A := 256) (B := 256) (by omega) (by omega) (by omega) (by omega)
    have kk1 : IntKind.i64.wrap (qy * W) = qy * W := IntWalk.i64_in _ (by omega)
    have kk2 : IntKind.i64.wrap (qy * W + qx) = (J : Int) := by rw [hi2]; exact IntWalk.i64_in _ (by omega)
    have hJn : J < n := by
      have m2 := Int.mul_le_mul_of_nonneg_right (show qy ≤ H - 1 by omega) (show 0 ≤ W by omega)
      rw [Int.sub_mul, Int.one_mul, Int.mul_comm H W] at m2
      omega
    obtain ⟨ab, ao, rfl, hab, hac⟩ := HR.out (by rw [HNN.out]; omega)
    have hJl : J < l.length := by rw [HNN.out]; exact hJn
    have hc2 := hac J hJl
    have hcst : l.getD J 0 = l[J] := by simp [List.getD_eq_getElem?_getD, hJl]
    rw [hcst] at hon
    have hon2 := hon.2
    obtain ⟨cst, hcs⟩ : ∃ z, l[J] = z := ⟨_, rfl⟩
    rw [hcs] at hc2 hon2
    have hcb : (cst == 0) = false := by rw [beq_eq_false_iff_ne]; omega
    have jJ : (J : Int) < (n : Int) := by omega
    simp only [List.setIfInBounds_toArray, List.set_cons_zero, List.set_cons_succ]
    have Q1 : Hid (Blk W1 B1 28 #[.int .i64 ux, .int .i64 uy]) := hide hx1
    have Q2 : Hid (Blk W1 B2 28 #[.int .i64 qx, .int .i64 qy]) := hide hx2
    have I1 := hide i1
    have I2 := hide i2
    have I4 := hide i4
    have I5 := hide i5
    have I6 := hide i6
    have u0 := Q1.out.at 0 rfl; have u1 := Q1.out.at 1 rfl; have uz := Q1.out.lt
    have v0 := Q2.out.at 0 rfl; have v1 := Q2.out.at 1 rfl; have vz := Q2.out.lt
    clear hac hJl hcst hon hcs hon2 hi2 m1 hJ hx1 hx2 i1 i2 i4 i5 i6 bq bu hon1 hpre hkl hq hu z2 z4 hseq eg
    by_cases hp : pre = []
    · subst hp
      rw [show decide (([] : List (Cell × Cell)) = []) = true from rfl] at I5
      gi_wp2_with (first
      | (refine ⟨trivial, ?_⟩; gi_at_call 73; refine (callsIn_wide.2 (HD.out _)).mono ?_; rintro e w5 ⟨d, er, rfl, hb5, her⟩; have HER := hide her; clear her; have Q5 := hide (Q2.out.ext hb5); have F5 := hide (I4.out.ext hb5); have T5 := hide (I5.out.ext hb5); have E5 := hide (I6.out.ext hb5); have v0 := Q5.out.at 0 rfl; have v1 := Q5.out.at 1 rfl; have vz := Q5.out.lt; have f0 := F5.out.at 0 rfl; have f1 := F5.out.at 1 rfl; have fz := F5.out.lt; have HB5 := hide hb5; skip; clear hb5)
      | (refine ⟨trivial, ?_⟩; gi_at_call 66; refine (callsIn_wide.2 (HIN.out _)).mono ?_; rintro e w6 ⟨rfl, hb6⟩; have Q6 := hide (Q5.out.ext hb6); have F6 := hide (F5.out.ext hb6); have T6 := hide (T5.out.ext hb6); have E6 := hide (E5.out.ext hb6); have v0 := Q6.out.at 0 rfl; have v1 := Q6.out.at 1 rfl; have vz := Q6.out.lt; have f0 := F6.out.at 0 rfl; have f1 := F6.out.at 1 rfl; have f2 := F6.out.at 2 rfl; have fz := F6.out.lt; have t0 := T6.out.at 0 rfl; have t1 := T6.out.frozen 0; have tz := T6.out.lt; have HB6 := hide (HB5.out.trans hb6); have y2 := ((I2.out.trans HB6.out).cell (p := ⟨ab, ao + J, none⟩) hab).trans hc2; have yz2 := Nat.lt_of_lt_of_le hab (I2.out.trans HB6.out).size; clear hb6))
      have tt : Touch (fun j => j = fb) w6 (w6.setCell ⟨fb, 0, none⟩ (.bool false)) := (Touch.refl (fun j => j = fb) w6).setCell (p := ⟨fb, 0, none⟩) (.inl rfl) _
      have z2 := Z2.out
      have z4 := Z4.out
      have hs6 := HB6.out.size
      refine ⟨⟨I1.out, ((Touch.of_ext (S := fun _ => False) (I2.out.trans HB6.out)).after tt (fun k hk h => by omega)).ext, Nat.le_trans (Nat.le_trans i3 hs6) tt.size, F6.out.touch tt (fun h => by omega), ?_, E6.out.touch tt (fun h => by omega)⟩, ?_⟩
      · have h1 := T6.out.set_ 0 (.bool false)
        simpa using h1
      · exact (Touch.of_ext HB6.out).trans (tt.mono (fun k hk h => ⟨fun hT => by have := I1.out k hT; omega, by omega, by omega, by omega⟩))
    · rw [decide_eq_false hp] at I5
      have hk0 : 0 < k := by rw [← hk]; exact List.length_pos_iff.2 hp
      have HSD := hide (hsd hk0 hkm)
      gi_wp2_with (first
      | (refine ⟨trivial, ?_⟩; gi_at_call 73; refine (callsIn_wide.2 (HD.out _)).mono ?_; rintro e w5 ⟨d, er, rfl, hb5, her⟩; have HER := hide her; clear her; have Q5 := hide (Q2.out.ext hb5); have F5 := hide (I4.out.ext hb5); have T5 := hide (I5.out.ext hb5); have E5 := hide (I6.out.ext hb5); have v0 := Q5.out.at 0 rfl; have v1 := Q5.out.at 1 rfl; have vz := Q5.out.lt; have f0 := F5.out.at 0 rfl; have f1 := F5.out.at 1 rfl; have fz := F5.out.lt; have HB5 := hide hb5; (have her0 := HER.out HSD.out; subst her0); clear hb5)
      | (refine ⟨trivial, ?_⟩; gi_at_call 66; refine (callsIn_wide.2 (HIN.out _)).mono ?_; rintro e w6 ⟨rfl, hb6⟩; have Q6 := hide (Q5.out.ext hb6); have F6 := hide (F5.out.ext hb6); have T6 := hide (T5.out.ext hb6); have E6 := hide (E5.out.ext hb6); have v0 := Q6.out.at 0 rfl; have v1 := Q6.out.at 1 rfl; have vz := Q6.out.lt; have f0 := F6.out.at 0 rfl; have f1 := F6.out.at 1 rfl; have f2 := F6.out.at 2 rfl; have fz := F6.out.lt; have t0 := T6.out.at 0 rfl; have t1 := T6.out.frozen 0; have tz := T6.out.lt; have HB6 := hide (HB5.out.trans hb6); have y2 := ((I2.out.trans HB6.out).cell (p := ⟨ab, ao + J, none⟩) hab).trans hc2; have yz2 := Nat.lt_of_lt_of_le hab (I2.out.trans HB6.out).size; clear hb6))
      have tt : Touch (fun j => j = fb) w6 (w6.setCell ⟨fb, 0, none⟩ (.bool false)) := (Touch.refl (fun j => j = fb) w6).setCell (p := ⟨fb, 0, none⟩) (.inl rfl) _
      have z2 := Z2.out
      have z4 := Z4.out
      have hs6 := HB6.out.size
      refine ⟨⟨I1.out, ((Touch.of_ext (S := fun _ => False) (I2.out.trans HB6.out)).after tt (fun k hk h => by omega)).ext, Nat.le_trans (Nat.le_trans i3 hs6) tt.size, F6.out.touch tt (fun h => by omega), ?_, E6.out.touch tt (fun h => by omega)⟩, ?_⟩
      · have h1 := T6.out.set_ 0 (.bool false)
        simpa using h1
      · exact (Touch.of_ext HB6.out).trans (tt.mono (fun k hk h => ⟨fun hT => by have := I1.out k hT; omega, by omega, by omega, by omega⟩))
  case done =>
    rintro T W1 ⟨i1, i2, i3, i4, i5, i6⟩ hD
    dsimp only
    have I2 := hide i2
    have ID := hide hD
    have s0 := i6.at 0 rfl
    have sz := i6.lt
    clear z2 z4 i1 i2 i4 i5 i6 hD
    go_wp2_with fail
    show Q' _ _ _
    rw [← HQ.out]
    refine ⟨by simp, .inl ⟨_, _, rfl, run_takeDeferred ID.out, ?_⟩⟩
    have t6 : Touch (fun j => j = w4.heap.size) W1 (W1.putObj w4.heap.size (.deferred none)) := touch_putObj _ _
    refine ⟨.int .i64 0, by simp [results, Try.results22, go_sem], ?_⟩
    have z2 := Z2.out
    have z4 := Z4.out
    exact ⟨rfl, ((Touch.of_ext (S := fun _ => False) I2.out).after t6 (fun k hk e => by omega)).ext⟩
end Go.Proofs.Ytifbmapianddcaa
