/- Walks for layer 9: around, where it may be left early; the direction from a cell to one beside it. -/
import Derived.Test.YtifbmapianddcaaStarA
import Derived.Test.YtifbmapianddcaaRangeV
set_option linter.all false
set_option linter.unusedVariables false
set_option linter.unusedSimpArgs false
namespace Go.Proofs.Ytifbmapianddcaa
open Go.RowKit
attribute [local go_sem] Oper.semAt_some

set_option maxHeartbeats 400000 in
theorem gAround1_iterS {w : World} {x y : Int} (hx : -1000000 ≤ x ∧ x ≤ 1000000) (hy : -1000000 ≤ y ∧ y ≤ 1000000) {bc : Nat} {R : Nat → Prop} (B : Blk w bc 28 #[.int .i64 x, .int .i64 y]) (Rb : R bc) (hR : ∀ k, R k → k < w.heap.size) :
    IterS Try.prog 161 #[.pointer (some ⟨bc, 0, none⟩)] dcV (fourC x y) R w := by
  intro lp J Jx W0 hx0 hA hE hS hEx hY hJ0
  have HE := hide hE
  have HEX := hide hEx
  have HY := hide hY
  have HJ0 := hide hJ0
  have B0 := hide (B.ext hx0)
  have zbc := B0.out.lt
  clear hA hE hS hEx hY hJ0 B hR hx0
  show Calls Try.prog 161 #[.func (.yield lp) #[] #[], .pointer (some ⟨bc, 0, none⟩)] W0 _
  go_enter Try.func161, Try.ntmps161
  go_wp2
  go_loopw [3] (fun s3 wr => ∃ (k : Nat) (T : Nat → Prop), k ≤ 4 ∧ s3 = .int .i64 (k : Int) ∧ J T ((fourC x y).take k) wr ∧ Touch (fun j => ¬ R j) W0 wr) (fun s3 _ => 4 - (intOf s3).toNat)
  case atStart => exact ⟨0, fun _ => False, by omega, rfl, HJ0.out, Touch.refl _ _⟩
  case round =>
    obtain ⟨k, T, hk, rfl, hJ, ht⟩ := hrel
    have J1 := hide hJ
    have T1 := hide ht
    have B1 := hide (B0.out.touch ht (fun h => h Rb))
    have q0 := B1.out.at 0 rfl; have q1 := B1.out.at 1 rfl; have qz := B1.out.lt
    clear hJ ht
    by_cases hlt : k < 4
    · have HN := hide (fun w' => gNext_any k hlt x y hx hy w')
      have hd : decide ((k : Int) ≤ 3) = true := by simp; omega
      have hpre : (fourC x y).take k ++ [((k : Int), (x + dirX k, y + dirY k))] <+: fourC x y := by rw [← fourC_take x y hlt]; exact List.take_prefix _ _
      have HPRE := hide hpre
      clear hpre
      refine (wpIn_wide (n := 4)).1 ?_
      gi_wp2_with (first
        | (refine ⟨trivial, ?_⟩; gi_at_call 162; refine (callsIn_wide.2 (HN.out _)).mono ?_; rintro e w2 ⟨rfl, hb2⟩; obtain ⟨fn, tmps, assign, body, hyy, hRR⟩ := HY.out T _ _ w2 (HE.out _ _ _ _ J1.out hb2) HPRE.out; have HRR := hide hRR; have HB2 := hide hb2; clear hRR hb2; unfold dcV at hyy)
        | (refine HRR.out.mono ?_; rintro e w3 h3; rcases h3 with ⟨rfl, hJ3, ht3⟩ | ⟨rfl, hJ3, ht3⟩ <;> (have J3 := hide hJ3; have T3 := hide (T1.out.trans ((Touch.of_ext HB2.out).trans (ht3.mono (fun j _ h => h.2)))); clear hJ3 ht3 hyy HRR)))
      · go_roundw
        case rel => exact ⟨k + 1, T, by omega, by go_num, by rw [fourC_take x y hlt]; exact J3.out, T3.out⟩
        case measure => simp [intOf]; omega
      · exact bodyPost_ret (v := .tuple #[]) (by simp [results, Try.results161, go_sem, *]) rfl ⟨⟨_, rfl⟩, .inr ⟨T, _, HPRE.out, J3.out⟩⟩
    · obtain rfl : k = 4 := by omega
      have J4 : Hid (J T (fourC x y) wr) := hide (by
        have h := J1.out
        rw [List.take_of_length_le (by rw [fourC_len]; exact Nat.le_refl _)] at h
        exact h)
      clear J1
      go_wp2_with fail
      go_end0
      exact ⟨⟨_, rfl⟩, .inl ⟨T, J4.out⟩⟩

/-- What a round of Dir keeps; and what stands when the cell is found. -/
def DirI (w w4 : World) (bx byy : Int) (T : Nat → Prop) (pre : List (Int × Cell)) (W1 : World) : Prop :=
  (∀ k, T k → w4.heap.size ≤ k) ∧ Ext w W1 ∧ w4.heap.size ≤ W1.heap.size ∧ Blk W1 (w.heap.size + 1) 28 #[.int .i64 bx, .int .i64 byy] ∧ Blk W1 (w.heap.size + 2) 3 #[.int .i64 0] ∧ Blk W1 (w.heap.size + 3) 34 #[.int .i64 0] ∧ (bx, byy) ∉ pre.map (·.2)
def DirX (w w4 : World) (c : Code) (W1 : World) : Prop := c = .ret ∧ Ext w W1 ∧ w4.heap.size ≤ W1.heap.size ∧ ∃ d, Blk W1 (w.heap.size + 2) 3 #[.int .i64 d] ∧ Blk W1 (w.heap.size + 3) 34 #[.int .i64 0]

set_option maxRecDepth 100000 in
set_option maxHeartbeats 1000000 in
theorem gDir_any {w : World} (x y bx byy : Int) (hx : 0 ≤ x ∧ x ≤ 1000) (hy : 0 ≤ y ∧ y ≤ 1000) (hbx : 0 ≤ bx ∧ bx ≤ 1000) (hby : 0 ≤ byy ∧ byy ≤ 1000) :
    Calls Try.prog 73 #[.agg #[.int .i64 x, .int .i64 y], .agg #[.int .i64 bx, .int .i64 byy]] w fun e w' => ∃ d er, e = .returned (.tuple #[.int .i64 d, .int .i64 er]) ∧ Ext w w' ∧ ((bx, byy) ∈ (fourC x y).map (·.2) → er = 0) := by
  have HS1 := hide (fun w' => simple_any x y w')
  have HS2 := hide (fun w' => simple_any bx byy w')
  rw [show simpleB x y = true by simp [simpleB, betw]; omega] at HS1
  rw [show simpleB bx byy = true by simp [simpleB, betw]; omega] at HS2
  refine callsIn_wide.1 (callsIn_of_wp_marks (n := 4) Try.func73 rfl trivial ((wpIn_wide (n := 4)).2 ?_))
  simp only [Try.ntmps73, List.size_toArray, List.length_cons, List.length_nil, Nat.reduceAdd, Nat.reduceSub, Array.replicate_succ, Array.replicate_zero, List.push_toArray, List.append_toArray, List.nil_append, List.cons_append]
  generalize hQ : bodyPostM _ _ _ _ _ = Q'
  have HQ := hide hQ
  clear hQ
  go_wp2_with fail
  refine (HS1.out _).mono ?_
  rintro e w1 ⟨rfl, hb1⟩
  have B0 : Hid (Blk w1 (w.heap.size) 28 #[.int .i64 x, .int .i64 y]) := hide (by refine Blk.ext ?_ hb1; (repeat' (first | exact Blk.new_ (by simp) | refine Blk.drew ?_ | refine Blk.over ?_)))
  have B1 : Hid (Blk w1 (w.heap.size + 1) 28 #[.int .i64 bx, .int .i64 byy]) := hide (by refine Blk.ext ?_ hb1; (repeat' (first | exact Blk.new_ (by simp) | refine Blk.drew ?_ | refine Blk.over ?_)))
  have B2 : Hid (Blk w1 (w.heap.size + 2) 3 #[.int .i64 0]) := hide (by refine Blk.ext ?_ hb1; (repeat' (first | exact Blk.new_ (by simp) | refine Blk.drew ?_ | refine Blk.over ?_)))
  have B3 : Hid (Blk w1 (w.heap.size + 3) 34 #[.int .i64 0]) := hide (by refine Blk.ext ?_ hb1; (repeat' (first | exact Blk.new_ (by simp) | refine Blk.drew ?_ | refine Blk.over ?_)))
  have X1 := hide (show Ext w w1 from (by (with_reducible (repeat' (first | exact Ext.refl _ | assumption | refine Ext.drew ?_ | refine Ext.drewN ?_ _ | refine Ext.alloc ?_ _ | refine Ext.setCell ?_ ?_ _ | refine Ext.trans ?_ (by assumption)))); all_goals (first | (simp; done) | (simp; omega))))
  have p0 := B0.out.at 0 rfl; have p1 := B0.out.at 1 rfl; have pz := B0.out.lt
  have q0 := B1.out.at 0 rfl; have q1 := B1.out.at 1 rfl; have qz := B1.out.lt
  clear hb1
  go_wp2_with fail
  refine (HS2.out _).mono ?_
  rintro e w2 ⟨rfl, hb2⟩
  have hx12 : Ext w1 w2 := (by (with_reducible (repeat' (first | exact Ext.refl _ | assumption | refine Ext.drew ?_ | refine Ext.drewN ?_ _ | refine Ext.alloc ?_ _ | refine Ext.setCell ?_ ?_ _ | refine Ext.trans ?_ (by assumption)))); all_goals (first | (simp; done) | (simp; omega)))
  have X2 := hide (X1.out.trans hx12)
  have C0 := hide (B0.out.ext hx12)
  have C1 := hide (B1.out.ext hx12)
  have C2 := hide (B2.out.ext hx12)
  have C3 := hide (B3.out.ext hx12)
  clear hb2 p0 p1 pz q0 q1 qz B0 B1 B2 B3 hx12 X1
  have p0 := C0.out.at 0 rfl; have p1 := C0.out.at 1 rfl; have pz := C0.out.lt
  go_wp2_with fail
  refine (gAround_any x y _).mono ?_
  rintro e w4 ⟨rfl, hw4⟩
  have h24 : Ext w2 w4 := by rw [hw4]; exact (Ext.refl _).alloc _
  have z4 : w4.heap.size = w2.heap.size + 1 := by rw [hw4]; simp
  have BC := hide (show Blk w4 w2.heap.size 28 #[.int .i64 x, .int .i64 y] by rw [hw4]; exact Blk.new_ rfl)
  have D1 := hide (C1.out.ext h24)
  have D2 := hide (C2.out.ext h24)
  have D3 := hide (C3.out.ext h24)
  have X4 := hide (X2.out.trans h24)
  have zc2 := C3.out.lt
  clear hw4 h24 p0 p1 pz C0 C1 C2 C3 X2 HS1 HS2
  go_wp2_with fail
  have hseq := gAround1_iterS (w := w4) (x := x) (y := y) (R := fun k => k = w2.heap.size) (by omega) (by omega) BC.out rfl (fun k hk => by omega)
  have eg : ∀ args w, (callFunc 161 args).run Try.prog w = .ok (.enter 161 args) w := enters_of Try.func161 (by kernel_rfl) rfl
  refine (wpIn_wide (n := 4)).1 ?_
  refine wp_range_sdbox (g := .tmp 17) (p1 := 18) (p2 := 19) (d := 6) (bs := 7) (u := fun q : Int × Cell => .int .i64 q.1) (v := fun q : Int × Cell => .agg #[.int .i64 q.2.1, .int .i64 q.2.2]) (cs := fun q : Int × Cell => #[.int .i64 q.2.1, .int .i64 q.2.2]) (t := 28) (gf := 161) rfl eg hseq (fun _ => rfl)
    (DirI w w4 bx byy) (fun c T pre W1 => DirX w w4 c W1)
    (fun k hk => by omega) ?hO ?hA ?hE ?hS ?hOx ?hEx ⟨fun _ h => h.elim, X4.out, Nat.le_refl _, D1.out, D2.out, D3.out, by simp⟩ ?assign ?body ?done ?stop
  case hO =>
    rintro T pre W1 W2 ⟨i1, i2, i3, i4, i5, i6, i7⟩ tt
    exact ⟨i1, ((Touch.of_ext (S := fun _ => False) i2).after tt (fun k hk h => by omega)).ext, Nat.le_trans i3 tt.size, i4.touch tt (fun h => by omega), i5.touch tt (fun h => by omega), i6.touch tt (fun h => by omega), i7⟩
  case hA =>
    rintro T pre W1 o ⟨i1, i2, i3, i4, i5, i6, i7⟩
    exact ⟨fun k hk => hk.elim (i1 k) (fun e => by omega), i2.alloc _, by simp; omega, i4.over, i5.over, i6.over, i7⟩
  case hE =>
    rintro T pre W1 W2 ⟨i1, i2, i3, i4, i5, i6, i7⟩ e
    exact ⟨i1, i2.trans e, Nat.le_trans i3 e.size, i4.ext e, i5.ext e, i6.ext e, i7⟩
  case hS =>
    rintro T pre W1 q u ⟨i1, i2, i3, i4, i5, i6, i7⟩ hq
    have tt : Touch (fun k => k = q.block) W1 (W1.setCell q u) := (Touch.refl (fun k => k = q.block) W1).setCell (.inl rfl) u
    have hqb := i1 _ hq
    exact ⟨i1, i2.setCell (by omega) _, Nat.le_trans i3 tt.size, i4.touch tt (fun h => by omega), i5.touch tt (fun h => by omega), i6.touch tt (fun h => by omega), i7⟩
  case hOx =>
    rintro c T pre W1 W2 ⟨i0, i2, i3, d, i5, i6⟩ tt
    exact ⟨i0, ((Touch.of_ext (S := fun _ => False) i2).after tt (fun k hk h => by omega)).ext, Nat.le_trans i3 tt.size, d, i5.touch tt (fun h => by omega), i6.touch tt (fun h => by omega)⟩
  case hEx =>
    rintro c T pre W1 W2 ⟨i0, i2, i3, d, i5, i6⟩ e
    exact ⟨i0, i2.trans e, Nat.le_trans i3 e.size, d, i5.ext e, i6.ext e⟩
  case assign =>
    intro q W1 K hK
    clear z4
    simp only [List.setIfInBounds_toArray, List.set_cons_zero, List.set_cons_succ] at hK ⊢
    gi_wp2
    exact hK W1.heap.size _ (by (with_reducible (repeat' (first | exact Ext.refl _ | assumption | refine Ext.drew ?_ | refine Ext.drewN ?_ _ | refine Ext.alloc ?_ _ | refine Ext.setCell ?_ ?_ _ | refine Ext.trans ?_ (by assumption)))); all_goals (first | (simp; done) | (simp; omega))) (heap_new _ _) (Nat.le_refl _)
  case body =>
    rintro T pre ⟨d, qx, qy⟩ Bx W1 ⟨i1, i2, i3, i4, i5, i6, i7⟩ hb hz hz2 hpre
    have Z4 := hide z4
    clear z4
    simp only [List.setIfInBounds_toArray, List.set_cons_zero, List.set_cons_succ]
    have BB : Hid (Blk W1 Bx 28 #[.int .i64 qx, .int .i64 qy]) := hide hb
    have I1 := hide i1
    have I2 := hide i2
    have I4 := hide i4
    have I5 := hide i5
    have I6 := hide i6
    have I7 := hide i7
    have q0 := BB.out.at 0 rfl; have q1 := BB.out.at 1 rfl; have qz := BB.out.lt
    have p0 := I4.out.at 0 rfl; have p1 := I4.out.at 1 rfl; have pz := I4.out.lt
    have r0 := I5.out.at 0 rfl; have rz := I5.out.lt
    have s0 := I6.out.at 0 rfl; have sz := I6.out.lt
    have r1 := I5.out.frozen 0
    have s1 := I6.out.frozen 0
    clear hb i1 i2 i4 i5 i6 i7 hpre
    by_cases he : (qx, qy) = (bx, byy)
    · have hq1 : ∀ w, (Op.equalIn 10000 28 (.agg #[.int .i64 qx, .int .i64 qy]) (.agg #[.int .i64 bx, .int .i64 byy])).run Try.prog w = .ok true w := fun w => by rw [eq_cell (qx, qy) (bx, byy) w, cellB_eq, decide_eq_true he]
      clear he
      gi_wp2_with fail
      have tt : Touch (fun j => j = w.heap.size + 2 ∨ j = w.heap.size + 3) W1 ((W1.setCell ⟨w.heap.size + 2, 0, none⟩ (.int .i64 d)).setCell ⟨w.heap.size + 3, 0, none⟩ (.int .i64 0)) := ((Touch.refl (fun j => j = w.heap.size + 2 ∨ j = w.heap.size + 3) W1).setCell (p := ⟨w.heap.size + 2, 0, none⟩) (.inl (.inl rfl)) _).setCell (p := ⟨w.heap.size + 3, 0, none⟩) (.inl (.inr rfl)) _
      have ta : Touch (fun j => j = w.heap.size + 2) W1 (W1.setCell ⟨w.heap.size + 2, 0, none⟩ (.int .i64 d)) := (Touch.refl (fun j => j = w.heap.size + 2) W1).setCell (p := ⟨w.heap.size + 2, 0, none⟩) (.inl rfl) _
      have tb : Touch (fun j => j = w.heap.size + 3) (W1.setCell ⟨w.heap.size + 2, 0, none⟩ (.int .i64 d)) ((W1.setCell ⟨w.heap.size + 2, 0, none⟩ (.int .i64 d)).setCell ⟨w.heap.size + 3, 0, none⟩ (.int .i64 0)) := (Touch.refl (fun j => j = w.heap.size + 3) _).setCell (p := ⟨w.heap.size + 3, 0, none⟩) (.inl rfl) _
      have z4 := Z4.out
      refine ⟨.inr ⟨.ret, rfl, rfl, ?_, Nat.le_trans i3 tt.size, d, ?_, ?_⟩, ?_⟩
      · exact ((Touch.of_ext (S := fun _ => False) I2.out).after tt (fun k hk h => by omega)).ext
      · exact (I5.out.set_ 0 (.int .i64 d)).touch tb (fun h => by omega)
      · exact (I6.out.touch ta (fun h => by omega)).set_ 0 (.int .i64 0)
      · exact tt.mono (fun k hk h => ⟨fun hT => by have := I1.out k hT; omega, by omega, by omega, by omega⟩)
    · have hq1 : ∀ w, (Op.equalIn 10000 28 (.agg #[.int .i64 qx, .int .i64 qy]) (.agg #[.int .i64 bx, .int .i64 byy])).run Try.prog w = .ok false w := fun w => by rw [eq_cell (qx, qy) (bx, byy) w, cellB_eq, decide_eq_false he]
      have HE := hide he
      clear he
      gi_wp2_with fail
      refine ⟨.inl ⟨I1.out, I2.out, i3, I4.out, I5.out, I6.out, ?_⟩, Touch.refl _ _⟩
      rw [List.map_append, List.mem_append]
      rintro (h | h)
      · exact I7.out h
      · simp only [List.map_cons, List.map_nil, List.mem_singleton] at h
        exact HE.out h.symm
  case done =>
    rintro T W1 ⟨i1, i2, i3, i4, i5, i6, i7⟩ hD
    dsimp only
    have I2 := hide i2
    have ID := hide hD
    have I7 := hide i7
    have Z4 := hide z4
    have r0 := i5.at 0 rfl
    have s0 := i6.at 0 rfl
    have r1 := i5.frozen 0
    have s1 := i6.frozen 0
    have rz := i5.lt
    have sz := i6.lt
    have I5 := hide i5
    have I6 := hide i6
    clear i5 i6 i2 hD i1 i4 i7 z4
    go_wp2_with fail
    obtain ⟨W2, hW2⟩ : ∃ z, z = (W1.setCell ⟨w.heap.size + 2, 0, none⟩ (.int .i64 0)).setCell ⟨w.heap.size + 3, 0, none⟩ (.int .i64 1) := ⟨_, rfl⟩
    have ta : Touch (fun j => j = w.heap.size + 2) W1 (W1.setCell ⟨w.heap.size + 2, 0, none⟩ (.int .i64 0)) := (Touch.refl (fun j => j = w.heap.size + 2) W1).setCell (p := ⟨w.heap.size + 2, 0, none⟩) (.inl rfl) _
    have tb : Touch (fun j => j = w.heap.size + 3) (W1.setCell ⟨w.heap.size + 2, 0, none⟩ (.int .i64 0)) W2 := by rw [hW2]; exact (Touch.refl (fun j => j = w.heap.size + 3) _).setCell (p := ⟨w.heap.size + 3, 0, none⟩) (.inl rfl) _
    have z4 := Z4.out
    have A5 : Blk W2 (w.heap.size + 2) 3 #[.int .i64 0] := (I5.out.set_ 0 (.int .i64 0)).touch tb (fun h => by omega)
    have A6 : Blk W2 (w.heap.size + 3) 34 #[.int .i64 1] := by rw [hW2]; exact (I6.out.touch ta (fun h => by omega)).set_ 0 (.int .i64 1)
    have hzd := (Array.getElem?_eq_some_iff.1 ID.out).1
    have hd2 : W2.heap[w4.heap.size]? = some (.deferred (some [])) := (tb.block _ (by have := ta.size; omega) (fun h => by omega)).trans ((ta.block _ (by omega) (fun h => by omega)).trans ID.out)
    have xx : Ext w W2 := (((Touch.of_ext (S := fun _ => False) I2.out).after ta (fun k hk h => by omega)).after tb (fun k hk h => by omega)).ext
    rw [← hW2, ← HQ.out]
    refine ⟨by simp, .inl ⟨_, _, rfl, run_takeDeferred hd2, ?_⟩⟩
    have t6 : Touch (fun j => j = w4.heap.size) W2 (W2.putObj w4.heap.size (.deferred none)) := touch_putObj _ _
    have f0 := (A5.touch t6 (fun h => by omega)).at 0 rfl
    have f1 := (A6.touch t6 (fun h => by omega)).at 0 rfl
    refine ⟨.tuple #[.int .i64 0, .int .i64 1], by simp [results, Try.results73, go_sem, f0, f1], ?_⟩
    refine ⟨_, _, rfl, ((Touch.of_ext (S := fun _ => False) xx).after t6 (fun k hk e => by omega)).ext, fun h => absurd h I7.out⟩
  case stop =>
    rintro c T pre W1 hp ⟨rfl, i2, i3, d, i5, i6⟩ hD
    dsimp only
    have I2 := hide i2
    have ID := hide hD
    have r0 := i5.at 0 rfl
    have s0 := i6.at 0 rfl
    have I5 := hide i5
    have I6 := hide i6
    have Z4 := hide z4
    clear i5 i6 i2 hD z4
    refine (wpIn_wide (n := 4)).2 ?_
    go_wp2_with fail
    have z4 := Z4.out
    rw [← HQ.out]
    refine ⟨by simp, .inl ⟨_, _, rfl, run_takeDeferred ID.out, ?_⟩⟩
    have t6 : Touch (fun j => j = w4.heap.size) W1 (W1.putObj w4.heap.size (.deferred none)) := touch_putObj _ _
    have f0 := (I5.out.touch t6 (fun h => by omega)).at 0 rfl
    have f1 := (I6.out.touch t6 (fun h => by omega)).at 0 rfl
    refine ⟨.tuple #[.int .i64 d, .int .i64 0], by simp [results, Try.results73, go_sem, f0, f1], ?_⟩
    refine ⟨_, _, rfl, ((Touch.of_ext (S := fun _ => False) I2.out).after t6 (fun k hk e => by omega)).ext, fun _ => rfl⟩
end Go.Proofs.Ytifbmapianddcaa
