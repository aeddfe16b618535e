/- Part of a proof: StarB StarC. -/
import Derived.Test.YtaellcgglldjaaaGreatHierBacksQ24
import Derived.Test.YtaellcgglldjaaaGreatHierBacksQ01
import Derived.RangeFuncBox
import Derived.OwnWalkIn
import Derived.TacticsInMore
import Derived.Test.YtaellcgglldjaaaGreatHierBacksQ22
set_option linter.all false
set_option linter.unusedVariables false
set_option linter.unusedSimpArgs false
namespace Go.Proofs.YtaellcgglldjaaaGreat
open Go.RowKit
attribute [local go_sem] Oper.semAt_some
def inCells (W H : Int) (l : List (Int × Cell)) : List Cell := (l.filter fun q => inB W H q.2.1 q.2.2).map Prod.snd
theorem inCells_snoc (W H : Int) (l : List (Int × Cell)) (q : Int × Cell) : inCells W H (l ++ [q]) = inCells W H l ++ if inB W H q.2.1 q.2.2 = true then [q.2] else [] := by
 unfold inCells
 rw [List.filter_append, List.map_append]
 congr 1
 rw [List.filter_cons]
 split <;> rfl
theorem inCells_len (W H : Int) (l : List (Int × Cell)) : (inCells W H l).length ≤ l.length := by
 unfold inCells
 rw [List.length_map]
 exact List.length_filter_le _ _
set_option maxRecDepth 100000 in
set_option maxHeartbeats 1000000 in
theorem gBeside_ok {w : World} (W H x y : Int) (hin : inB W H x y = true) :
  Calls Tryz.prog 107 #[.agg #[.int .i64 W, .int .i64 H], .agg #[.int .i64 x, .int .i64 y]] w fun e w' =>
   ∃ v, e = .returned (.tuple #[v, .int .i64 0]) ∧ Ext w w' ∧ Own cellE w' w.heap.size 28 v (inCells W H (fourC x y)) := by
 have hb := inB_true.1 hin
 have HI := hide (fun w' => in_any W H x y w')
 rw [hin] at HI
 have HI2 := hide (fun (x' y' : Int) w' => in_any W H x' y' w')
 refine callsIn_wide.1 (callsIn_of_wp_marks (n := 4) Tryz.func107 rfl trivial ((wpIn_wide (n := 4)).2 ?_))
 simp only [Tryz.ntmps107, List.size_toArray, List.length_cons, List.length_nil, Nat.reduceAdd, Nat.reduceSub, Array.replicate_succ, Array.replicate_zero, List.push_toArray, List.append_toArray, List.nil_append, List.cons_append]
 generalize hQ : bodyPostM _ _ _ _ _ = Q'
 have HQ := hide hQ
 clear hQ hin
 go_wp2_with (go_at_call 55; refine (HI.out _).mono ?_; rintro e w1 ⟨rfl, hb1⟩; obtain ⟨hc1, hf1⟩ := hb1.cells; have hz1 := hb1.size; (repeat (first | rw [World.size_alloc] at hz1 | rw [World.size_drew] at hz1)); have z1_0 : w.heap.size < w1.heap.size := (by omega); have z1_1 : w.heap.size + 1 < w1.heap.size := (by omega))
 refine (gAround_any x y _).mono ?_
 rintro e w4 ⟨rfl, hw4⟩
 have h14 : Ext w1 w4 := by rw [hw4]; exact ((Ext.refl _).alloc _).alloc _
 have z4 : w4.heap.size = w1.heap.size + 2 := by rw [hw4]; simp
 have B0 : Hid (Blk w4 (w.heap.size) 23 #[.int .i64 W, .int .i64 H]) := hide (by refine Blk.ext ?_ (hb1.trans h14); (repeat' (first | exact Blk.new_ (by simp) | refine Blk.drew ?_ | refine Blk.over ?_)))
 have OB : Hid (Blk w4 w1.heap.size 37 #[.slice none 0 0]) := hide (by rw [hw4]; exact (Blk.new_ rfl).over)
 have BC : Hid (Blk w4 (w1.heap.size + 1) 28 #[.int .i64 x, .int .i64 y]) := hide (by rw [hw4]; exact Blk.new_ (by simp))
 have hw1z : w.heap.size + 2 ≤ w1.heap.size := by have := z1_1; omega
 have HX4 := hide (show Ext w w4 from Ext.trans z_x h14)
 clear hw4 h14 hb1 hc1 hf1 hz1 z1_0 z1_1 HI
 go_wp2_with fail
 have hseq := gAround1_iter (w := w4) (x := x) (y := y) (R := fun k => k = w1.heap.size + 1 ∨ k = w.heap.size) (by omega) (by omega) BC.out (.inl rfl) (fun k hk => by omega)
 have eg : ∀ args w, (callFunc 156 args).run Tryz.prog w = .ok (.enter 156 args) w := enters_of Tryz.func156 (by kernel_rfl) rfl
 refine (wpIn_wide (n := 4)).1 ?_
 refine wp_range_box2 (g := .tmp 14) (p1 := 15) (p2 := 16) (bs := 8) (u := fun q : Int × Cell => .int .i64 q.1) (v := fun q : Int × Cell => .agg #[.int .i64 q.2.1, .int .i64 q.2.2]) (cs := fun q : Int × Cell => #[.int .i64 q.2.1, .int .i64 q.2.2]) (t := 28) (gf := 156) rfl eg hseq (fun _ => rfl)
  (fun T pre W1 => (∀ k, T k → w4.heap.size ≤ k ∧ k < W1.heap.size) ∧ Ext w W1 ∧ w4.heap.size ≤ W1.heap.size ∧ ∃ v, W1.heap[w1.heap.size]? = some (.cells #[v] 37 (0, 0)) ∧ Own cellE W1 (w4.heap.size + 2) 28 v (inCells W H pre) ∧ (∀ k, v.ownBlock = some k → ¬ T k) ∧ Blk W1 w.heap.size 23 #[.int .i64 W, .int .i64 H])
  (fun k hk => by omega) ?hO ?hA ?hE ?hS ⟨fun _ h => h.elim, HX4.out, Nat.le_refl _, _, OB.out, Own.nil _ _ _ _, fun _ _ h => h, B0.out⟩ ?assign ?body ?done
 case hO =>
  rintro T pre W1 W2 ⟨i1, i2, i3, v, i4, i5, i6, i7⟩ tt
  exact ⟨fun k hk => ⟨(i1 k hk).1, Nat.lt_of_lt_of_le (i1 k hk).2 tt.size⟩, ((Touch.of_ext (S := fun _ => False) i2).after tt (fun k hk h => by omega)).ext, Nat.le_trans i3 tt.size, v, (tt.block _ (by omega) (fun h => by omega)).trans i4, Own.touch i5 tt (fun k hk h => by have := own_lt i5 hk; omega), i6, i7.touch tt (fun h => by omega)⟩
 case hA =>
  rintro T pre W1 o ⟨i1, i2, i3, v, i4, i5, i6, i7⟩
  exact ⟨fun k hk => hk.elim (fun h => ⟨(i1 k h).1, by have := (i1 k h).2; simp; omega⟩) (fun e => ⟨by omega, by simp; omega⟩), i2.alloc _, by simp; omega, v, (((Ext.refl W1).alloc o).block (by omega)).trans i4, i5.alloc _, fun k hk h => h.elim (i6 k hk) (fun e => by have := own_lt i5 hk; omega), i7.over⟩
 case hE =>
  rintro T pre W1 W2 ⟨i1, i2, i3, v, i4, i5, i6, i7⟩ e
  exact ⟨fun k hk => ⟨(i1 k hk).1, Nat.lt_of_lt_of_le (i1 k hk).2 e.size⟩, i2.trans e, Nat.le_trans i3 e.size, v, (e.block (by omega)).trans i4, i5.ext e, i6, i7.ext e⟩
 case hS =>
  rintro T pre W1 q u ⟨i1, i2, i3, v, i4, i5, i6, i7⟩ hq
  have tt : Touch (fun k => k = q.block) W1 (W1.setCell q u) := (Touch.refl (fun k => k = q.block) W1).setCell (.inl rfl) u
  have hqb := (i1 _ hq).1
  exact ⟨fun k hk => ⟨(i1 k hk).1, Nat.lt_of_lt_of_le (i1 k hk).2 tt.size⟩, i2.setCell (by omega) _, Nat.le_trans i3 tt.size, v, (tt.block _ (by omega) (fun h => by omega)).trans i4, Own.touch i5 tt (fun k hk h => i6 k hk (by rw [h]; exact hq)), i6, i7.touch tt (fun h => by omega)⟩
 case assign =>
  intro q W1 K hK
  simp only [List.setIfInBounds_toArray, List.set_cons_zero, List.set_cons_succ] at hK ⊢
  gi_wp2
  exact hK W1.heap.size _ z_x (heap_new _ _) (Nat.le_refl _)
 case body =>
  rintro T pre q Bx W1 ⟨i1, i2, i3, v, i4, i5, i6, i7⟩ hb hz hz2 hpre
  simp only [List.setIfInBounds_toArray, List.set_cons_zero, List.set_cons_succ]
  have BB : Hid (Blk W1 Bx 28 #[.int .i64 q.2.1, .int .i64 q.2.2]) := hide hb
  have BS := hide i7
  have HI3 := hide (fun w' => HI2.out q.2.1 q.2.2 w')
  obtain ⟨d, qx, qy⟩ := q
  simp only at BB HI3 ⊢
  have hsn := inCells_snoc W H pre (d, (qx, qy))
  simp only at hsn
  have hlen : (inCells W H pre).length + 1 ≤ 5 := by
   have h1 := inCells_len W H pre
   obtain ⟨rr, hrr⟩ := hpre
   have := congrArg List.length hrr
   rw [fourC_len] at this
   simp at this
   omega
  have HSN := hide hsn
  have I1 := hide i1
  have I2 := hide i2
  have I5 := hide i5
  have I6 := hide i6
  have I4 := hide i4
  have ZZ := hide (And.intro z4 hz)
  have hz4 : w1.heap.size + 2 ≤ w4.heap.size := by omega
  have zBx := BB.out.lt
  have q0 := BB.out.at 0 rfl; have q1 := BB.out.at 1 rfl; have qz := BB.out.lt
  have p0 := BS.out.at 0 rfl; have p1 := BS.out.at 1 rfl; have pz := BS.out.lt
  clear hb i4 i5 i6 i2 i7 hsn hpre z4 i1
  by_cases hq : inB W H qx qy = true
  ·have HQ2 := hide hq
   rw [hq] at HI3
   clear hq
   have hz2' := hz2
   gi_wp2_with (first
    | (refine ⟨trivial, ?_⟩; gi_at_call 55; refine (callsIn_wide.2 (HI3.out _)).mono ?_; rintro e w5 ⟨rfl, hb5⟩; have hz5 := hb5.size; have q0 := (hb5.cell (p := ⟨Bx, 0, none⟩) zBx).trans q0; have q1 := (hb5.cell (p := ⟨Bx, 1, none⟩) zBx).trans q1; have J4 : Hid (Blk w5 w1.heap.size 37 #[v]) := hide (Blk.ext I4.out hb5); have o0 := J4.out.at 0 rfl; have J5 := hide (I5.out.ext hb5); have HB5 := hide hb5; have hbase : w4.heap.size + 2 ≤ w5.heap.size := (by omega); clear hb5)
    | (gi_at_builtin; refine wpListIn_app_at cellE T_cells rfl _ _ rfl (w4.heap.size + 2) _ _ (inCells W H pre) rfl J5.out (qx, qy) _ _ rfl _ rfl rfl (by omega) (by omega) hbase ?_; intro g' cap' w10 hown' ht10 hloc; have hob : w10.heap[w1.heap.size]? = some (.cells #[v] 37 (0, 0)) := (ht10.block _ (by omega) (fun e => by have := own_lt J5.out e; omega)).trans J4.out; have hoc : w10.cell? ⟨w1.heap.size, 0, none⟩ = some v := (by simp [World.cell?, hob]); have hof : w10.frozen? ⟨w1.heap.size, 0, none⟩ = false := (by simp [World.frozen?, hob]); have HOB := hide hob; have HO' := hide hown'; have HT' := hide ht10; have HLO := hide hloc; clear hown' ht10 hloc hob))
   have ht10 := HT'.out
   have hzg := ht10.size
   have hb5 := HB5.out
   have ho' : w4.heap.size + 2 ≤ g' ∧ g' < w10.heap.size := own_lt HO'.out rfl
   have tt10 : Touch (fun k => (v.ownBlock = some k)) W1 w10 := (Touch.of_ext hb5).trans (ht10.mono (fun k _ h => h))
   have tt : Touch (fun k => ¬ T k ∧ ¬ (k = w1.heap.size + 1 ∨ k = w.heap.size) ∧ k ≠ w4.heap.size ∧ k ≠ w4.heap.size + 1) W1 (w10.setCell ⟨w1.heap.size, 0, none⟩ (.slice (some ⟨g', 0, none⟩) ((inCells W H pre).length + 1) cap')) := by
    refine (tt10.mono (fun k _ hk => ⟨I6.out k hk, fun e => ?_, fun e => ?_, fun e => ?_⟩)).setCell (p := ⟨w1.heap.size, 0, none⟩) (.inl ⟨fun hT => ?_, fun e => ?_, ?_, ?_⟩) _
    ·have := (own_lt I5.out hk).1; omega
    ·have := (own_lt I5.out hk).1; omega
    ·have := (own_lt I5.out hk).1; omega
    ·have := (I1.out _ hT).1; have e2 : w4.heap.size ≤ w1.heap.size := this; omega
    ·have e2 : w1.heap.size = w1.heap.size + 1 ∨ w1.heap.size = w.heap.size := e; omega
    ·show w1.heap.size ≠ _; omega
    ·show w1.heap.size ≠ _; omega
   have tts := tt10.size
   have ts : Touch (fun k => k = w1.heap.size) w10 (w10.setCell ⟨w1.heap.size, 0, none⟩ (.slice (some ⟨g', 0, none⟩) ((inCells W H pre).length + 1) cap')) := (Touch.refl (fun k => k = w1.heap.size) w10).setCell (p := ⟨w1.heap.size, 0, none⟩) (.inl rfl) _
   refine ⟨⟨fun k hk => ⟨(I1.out k hk).1, Nat.lt_of_lt_of_le (I1.out k hk).2 tts⟩, ?_, Nat.le_trans i3 tts, .slice (some ⟨g', 0, none⟩) ((inCells W H pre).length + 1) cap', ?_, ?_, fun k hk hT => ?_, ?_⟩, ?_⟩
   ·refine (((Touch.of_ext (S := fun _ => False) I2.out).after tt10 (fun k hk h => ?_)).after ts (fun k hk h => ?_)).ext
    ·have := (own_lt I5.out h).1; omega
    ·have e2 : k = w1.heap.size := h; omega
   ·have hbk : Blk w10 w1.heap.size 37 #[v] := HOB.out
    have := hbk.set_ 0 (.slice (some ⟨g', 0, none⟩) ((inCells W H pre).length + 1) cap')
    unfold Blk at this
    simpa using this
   ·rw [HSN.out, if_pos HQ2.out]
    exact Own.touch HO'.out ts (fun k hk e => by simp only [Value.ownBlock, Option.some.injEq] at hk; subst hk; omega)
   ·simp only [Value.ownBlock, Option.some.injEq] at hk
    subst hk
    rcases HLO.out with h | h
    ·exact I6.out _ h hT
    ·have h1 := (I1.out _ hT).2
     have h2 := hb5.size
     omega
   ·exact (BS.out.touch tt10 (fun h => by have := (own_lt I5.out h).1; omega)).touch ts (fun h => by have e2 : w.heap.size = w1.heap.size := h; omega)
   ·refine tt.mono fun k _ h => ?_
    simpa using h
  ·have hq2 : inB W H qx qy = false := by simpa using hq
   have HQ2 := hide hq2
   rw [hq2] at HI3
   clear hq hq2
   gi_wp2_with (refine ⟨trivial, ?_⟩; gi_at_call 55; refine (callsIn_wide.2 (HI3.out _)).mono ?_; rintro e w5 ⟨rfl, hb5⟩; have HB5 := hide hb5; clear hb5)
   have hb5 := HB5.out
   refine ⟨⟨fun k hk => ⟨(I1.out k hk).1, Nat.lt_of_lt_of_le (I1.out k hk).2 hb5.size⟩, I2.out.trans hb5, Nat.le_trans i3 hb5.size, v, (hb5.block (by omega)).trans I4.out, ?_, I6.out, BS.out.ext hb5⟩, Touch.of_ext hb5⟩
   rw [HSN.out, if_neg (by rw [HQ2.out]; simp), List.append_nil]
   exact I5.out.ext hb5
 case done =>
  rintro T W1 ⟨i1, i2, i3, v, i4, i5, i6, i7⟩ hD
  dsimp only
  have o0 : W1.cell? ⟨w1.heap.size, 0, none⟩ = some v := by simp [World.cell?, i4]
  have I5 := hide i5
  have ID := hide hD
  have I2 := hide i2
  have hzz := i3
  clear i5 hD i2 i4 i1 i6 i7
  go_wp2_with fail
  rw [← HQ.out]
  refine ⟨by simp, .inl ⟨_, _, rfl, run_takeDeferred ID.out, ?_⟩⟩
  refine ⟨.tuple #[v, .int .i64 0], by simp [results, Tryz.results107, go_sem], ?_⟩
  have t6 : Touch (fun j => j = w4.heap.size) W1 (W1.putObj w4.heap.size (.deferred none)) := touch_putObj _ _
  refine ⟨v, rfl, ((Touch.of_ext (S := fun _ => False) I2.out).after t6 (fun k hk e => by omega)).ext, ?_⟩
  exact Own.lower (Own.touch I5.out t6 (fun k hk e => by have := (own_lt I5.out hk).1; omega)) (by omega)
end Go.Proofs.YtaellcgglldjaaaGreat

namespace Go.Proofs.YtaellcgglldjaaaGreat
open Go.RowKit
def absI (n : Int) : Int := if n < 0 then -n else n
def manh (x y tx ty : Int) : Int := absI (x - tx) + absI (y - ty)
set_option maxRecDepth 100000 in
theorem gApart_any (x y tx ty : Int) (w : World) (hx : 0 ≤ x ∧ x ≤ 1000) (hy : 0 ≤ y ∧ y ≤ 1000) (htx : 0 ≤ tx ∧ tx ≤ 1000) (hty : 0 ≤ ty ∧ ty ≤ 1000) :
  Calls Tryz.prog 180 #[.agg #[.int .i64 x, .int .i64 y], .agg #[.int .i64 tx, .int .i64 ty]] w fun e w' => e = .returned (.tuple #[.int .i64 (absI (x - tx)), .int .i64 (absI (y - ty)), .int .i64 0]) ∧ Ext w w' := by
 have s1 : simpleB x y = true := by simp only [simpleB, Bool.and_eq_true, betw_true]; omega
 have s2 : simpleB tx ty = true := by simp only [simpleB, Bool.and_eq_true, betw_true]; omega
 have H1 := hide (fun w' => simple_any x y w')
 have H2 := hide (fun w' => simple_any tx ty w')
 rw [s1] at H1
 rw [s2] at H2
 have e1 := hide (show IntKind.i64.wrap ((if x < tx then tx else x) - if tx < x then tx else x) = absI (x - tx) by
  rw [show ((if x < tx then tx else x) - if tx < x then tx else x) = absI (x - tx) by unfold absI; split <;> split <;> split <;> omega]
  exact IntWalk.i64_in _ (by unfold absI; split <;> omega))
 have e2 := hide (show IntKind.i64.wrap ((if y < ty then ty else y) - if ty < y then ty else y) = absI (y - ty) by
  rw [show ((if y < ty then ty else y) - if ty < y then ty else y) = absI (y - ty) by unfold absI; split <;> split <;> split <;> omega]
  exact IntWalk.i64_in _ (by unfold absI; split <;> omega))
 clear s1 s2
 go_enter Tryz.func180, Tryz.ntmps180
 go_wp2_with fail
 refine (H1.out _).mono ?_
 rintro e w1 ⟨rfl, hb1⟩
 obtain ⟨hc1, hf1⟩ := hb1.cells; have hz1 := hb1.size; (repeat (first | rw [World.size_alloc] at hz1 | rw [World.size_drew] at hz1)); have z1_0 : w.heap.size < w1.heap.size := (by omega); have z1_1 : w.heap.size + 1 < w1.heap.size := (by omega)
 go_wp2_with fail
 refine (H2.out _).mono ?_
 rintro e w2 ⟨rfl, hb2⟩
 obtain ⟨hc2, hf2⟩ := hb2.cells; have hz2 := hb2.size; (repeat (first | rw [World.size_alloc] at hz2 | rw [World.size_drew] at hz2)); have z2_0 : w.heap.size < w2.heap.size := (by omega); have z2_1 : w.heap.size + 1 < w2.heap.size := (by omega)
 go_wp2_with fail
 refine seqH_start (S := (fun W => (∀ b o, b < w2.heap.size → W.cell? ⟨b, o, none⟩ = w2.cell? ⟨b, o, none⟩) ∧ Ext w2 W)) [(0, true), (1, true), (2, true), (3, true), (4, true), (5, true), (6, true), (7, true), (8, true), (9, true), (10, true), (11, true), (12, true), (13, true), (14, true), (15, true), (16, true), (17, true), (18, true), (19, true), (20, true), (21, true), (22, true), (23, true), (24, true)] (by kernel_rfl) (by kernel_rfl) (by kernel_rfl) (by decide) (fun _ _ d _ _ h => by cases d <;> exact h) (by first | with_reducible exact pr_start _ | exact pr_of z_x) (fun hHeld => ?_)
 iterate 25 (apply SeqH.free; (· (simp only [z_0, z_1, z_2]; rfl)); (· first | exact Or.inr ⟨by rfl, rfl⟩ | (refine Or.inl ⟨by rfl, ?_⟩; intro w hSw; (try dsimp only at hSw); go_simp; try with_reducible rfl)); try simp only [Act.put, z_3, z_4, z_5])
 refine SeqH.done ?_
 (try rw [show max x tx = (if x < tx then tx else x) from by rw [Int.max_def]; split <;> split <;> omega, show min x tx = (if tx < x then tx else x) from by rw [Int.min_def]; split <;> split <;> omega, show max y ty = (if y < ty then ty else y) from by rw [Int.max_def]; split <;> split <;> omega, show min y ty = (if ty < y then ty else y) from by rw [Int.min_def]; split <;> split <;> omega])
 rw [e1.out, e2.out]
 generalize (if x < tx then tx else x) = m1
 generalize (if tx < x then tx else x) = m2
 generalize (if y < ty then ty else y) = m3
 generalize (if ty < y then ty else y) = m4
 clear e1 e2
 go_wp2_with fail
 exact bodyPost_ret (v := .tuple #[.int .i64 (absI (x - tx)), .int .i64 (absI (y - ty)), .int .i64 0]) (by simp [results, Tryz.results180, go_sem, *]) rfl ⟨rfl, z_x⟩
theorem absI_bd {n : Int} (h : -1000 ≤ n ∧ n ≤ 1000) : 0 ≤ absI n ∧ absI n ≤ 1000 := by unfold absI; split <;> omega
theorem manh_bd {x y tx ty : Int} (hx : 0 ≤ x ∧ x ≤ 1000) (hy : 0 ≤ y ∧ y ≤ 1000) (htx : 0 ≤ tx ∧ tx ≤ 1000) (hty : 0 ≤ ty ∧ ty ≤ 1000) : 0 ≤ manh x y tx ty ∧ manh x y tx ty ≤ 2000 := by
 have h1 := absI_bd (n := x - tx) (by omega)
 have h2 := absI_bd (n := y - ty) (by omega)
 unfold manh
 omega
theorem gWalk_any (x y tx ty : Int) (w : World) (hx : 0 ≤ x ∧ x ≤ 1000) (hy : 0 ≤ y ∧ y ≤ 1000) (htx : 0 ≤ tx ∧ tx ≤ 1000) (hty : 0 ≤ ty ∧ ty ≤ 1000) :
  Calls Tryz.prog 155 #[.agg #[.int .i64 x, .int .i64 y], .agg #[.int .i64 tx, .int .i64 ty]] w fun e w' => e = .returned (.tuple #[.int .i64 (manh x y tx ty), .int .i64 0]) ∧ Ext w w' := by
 have H1 := hide (fun w' => gApart_any x y tx ty w' hx hy htx hty)
 have b1 := absI_bd (n := x - tx) (by omega)
 have b2 := absI_bd (n := y - ty) (by omega)
 unfold manh
 generalize absI (x - tx) = p at *
 generalize absI (y - ty) = q at *
 go_enter Tryz.func155, Tryz.ntmps155
 go_wp2_with fail
 refine (H1.out _).mono ?_
 rintro e w1 ⟨rfl, hb1⟩
 go_wp2_with fail
 exact bodyPost_ret (v := .tuple #[.int .i64 (p + q), .int .i64 0]) (by simp [results, Tryz.results155, go_sem, *]) rfl ⟨rfl, z_x⟩
def SeaAt (w : World) (sb : Nat) (W H : Int) (a : Option Addr) (n c : Nat) (tx ty : Int) (h mg mc : Nat) (k : Int) : Prop :=
 Blk w sb 138 #[.int .i64 W, .int .i64 H, .slice a n c, .int .i64 tx, .int .i64 ty, .pointer (some ⟨h, 0, none⟩), .map (some mg), .map (some mc), .int .i64 k]
theorem sNumber_any {w : World} {sb : Nat} {W H : Int} {a : Option Addr} {n c : Nat} {tx ty : Int} {h mg mc : Nat} {k : Int} (S : SeaAt w sb W H a n c tx ty h mg mc k) (x y : Int) (hx : 0 ≤ x ∧ x ≤ 1000) (hy : 0 ≤ y ∧ y ≤ 1000) (hW : 0 ≤ W ∧ W ≤ 1000) :
  Calls Tryz.prog 104 #[.pointer (some ⟨sb, 0, none⟩), .agg #[.int .i64 x, .int .i64 y]] w fun e w' => e = .returned (.int .i64 (y * W + x)) ∧ Ext w w' := by
 have hw0 := S.at 0 rfl
 have hz := Blk.lt S
 have m0 := mul_bd (a := y) (b := W) (A := 1000) (B := 1000) (by omega) (by omega) (by omega) (by omega)
 have k1 : IntKind.i64.wrap (y * W) = y * W := IntWalk.i64_in _ (by omega)
 have k2 : IntKind.i64.wrap (y * W + x) = y * W + x := IntWalk.i64_in _ (by omega)
 clear S m0
 go_enter Tryz.func104, Tryz.ntmps104
 go_wp2_with fail
 obtain ⟨w1, hw1⟩ : ∃ w1, w1 = w.alloc (.cells #[.int .i64 x, .int .i64 y] 28) := ⟨_, rfl⟩
 have hx1 : Ext w w1 := by rw [hw1]; exact (Ext.refl _).alloc _
 have B := hide (show Blk w1 w.heap.size 28 #[.int .i64 x, .int .i64 y] by rw [hw1]; exact Blk.new_ rfl)
 have q := (hx1.cell (p := ⟨sb, 0, none⟩) hz).trans hw0
 have hz1 := Nat.lt_of_lt_of_le hz hx1.size
 rw [← hw1]
 have b0 := B.out.at 0 rfl; have b1 := B.out.at 1 rfl; have bz := B.out.lt
 clear hw1 hw0
 refine seqH_start (S := (fun W => (∀ b o, b < w1.heap.size → W.cell? ⟨b, o, none⟩ = w1.cell? ⟨b, o, none⟩) ∧ Ext w1 W)) [(0, true), (1, true), (2, true), (3, true), (4, true), (5, true), (6, true), (7, true), (8, true), (9, true), (10, true), (11, true), (12, true)] (by kernel_rfl) (by kernel_rfl) (by kernel_rfl) (by decide) (fun _ _ d _ _ h => by cases d <;> exact h) (by first | with_reducible exact pr_start _ | exact pr_of z_x) (fun hHeld => ?_)
 iterate 13 (apply SeqH.free; (· (simp only [z_0, z_1, z_2]; rfl)); (· first | exact Or.inr ⟨by rfl, rfl⟩ | (refine Or.inl ⟨by rfl, ?_⟩; intro w hSw; (try dsimp only at hSw); go_simp; try with_reducible rfl)); try simp only [Act.put, z_3, z_4, z_5])
 refine SeqH.done ?_
 go_wp2_with fail
 go_ret
 exact ⟨rfl, hx1.trans z_x⟩
theorem sCost_any {w : World} {sb : Nat} {W H : Int} {a : Option Addr} {l : List Int} {c : Nat} {tx ty : Int} {h mg mc : Nat} {k : Int} (S : SeaAt w sb W H a l.length c tx ty h mg mc k) (hm : mayB W H = true) (hl : (l.length : Int) = W * H) (hr : Row16 w a l) (hu : U16s l) (x y : Int) (h1 : 0 ≤ x) (h2 : x < W) (h3 : 0 ≤ y) (h4 : y < H) :
  Calls Tryz.prog 59 #[.pointer (some ⟨sb, 0, none⟩), .agg #[.int .i64 x, .int .i64 y]] w fun e w' => e = .returned (.int .u64 (costI l W (x, y))) ∧ Ext w w' := by
 obtain ⟨m1, m2, m3, m4⟩ := mayB_true.1 hm
 obtain ⟨b, off, rfl, hb, hc⟩ := cost_cell hr hl h1 h2 h3 h4
 have cb := costI_bd hu W (x, y)
 have ib := idx_bd h1 h2 h3 h4
 have HN := hide (fun (w' : World) (hx : Ext w w') => sNumber_any (Blk.ext S hx) x y (by omega) (by omega) (by omega))
 have q2 := S.at 2 rfl
 have hz := Blk.lt S
 have ki : ((idxN W (x, y) : Nat) : Int) = y * W + x := idx_int h1 (by omega) h3
 rw [← ki] at HN
 rw [show (y * W + x).toNat = idxN W (x, y) from rfl] at hc
 have kl : ((idxN W (x, y) : Nat) : Int) < (l.length : Int) := by omega
 generalize idxN W (x, y) = v at *
 generalize costI l W (x, y) = cst at *
 obtain ⟨n, hn⟩ : ∃ n, l.length = n := ⟨_, rfl⟩
 rw [hn] at q2 kl
 have k3 : IntKind.u64.wrap cst = cst := by rw [IntKind.wrap_u64]; omega
 clear S hm hl hr hu h1 h2 h3 h4 ib hn m1 m2 m3 m4 ki
 go_enter Tryz.func59, Tryz.ntmps59
 go_wp2_with fail
 obtain ⟨w1, hw1⟩ : ∃ w1, w1 = w.alloc (.cells #[.int .i64 x, .int .i64 y] 28) := ⟨_, rfl⟩
 have hx1 : Ext w w1 := by rw [hw1]; exact (Ext.refl _).alloc _
 have B := hide (show Blk w1 w.heap.size 28 #[.int .i64 x, .int .i64 y] by rw [hw1]; exact Blk.new_ rfl)
 have q := (hx1.cell (p := ⟨sb, 2, none⟩) hz).trans q2
 have hc1 := (hx1.cell (p := ⟨b, off + v, none⟩) hb).trans hc
 have hz1 := Nat.lt_of_lt_of_le hz hx1.size
 have hb1 := Nat.lt_of_lt_of_le hb hx1.size
 rw [← hw1]
 have b0 := B.out.at 0 rfl; have b1 := B.out.at 1 rfl; have bz := B.out.lt
 clear hw1 q2 hc
 refine seqH_start (S := (fun W => (∀ b o, b < w1.heap.size → W.cell? ⟨b, o, none⟩ = w1.cell? ⟨b, o, none⟩) ∧ Ext w1 W)) [(0, true), (1, true), (2, true), (3, true), (4, true), (5, true), (6, true), (7, false), (8, true), (9, true), (10, true), (11, true)] (by kernel_rfl) (by kernel_rfl) (by kernel_rfl) (by decide) (fun _ _ d _ _ h => by cases d <;> exact h) (by first | with_reducible exact pr_start _ | exact pr_of z_x) (fun hHeld => ?_)
 iterate 7 (apply SeqH.free; (· (simp only [z_0, z_1, z_2]; rfl)); (· first | exact Or.inr ⟨by rfl, rfl⟩ | (refine Or.inl ⟨by rfl, ?_⟩; intro w hSw; (try dsimp only at hSw); go_simp; try with_reducible rfl)); try simp only [Act.put, z_3, z_4, z_5])
 (apply SeqH.step; (· (simp only [z_0, z_1, z_2]; rfl)); intro K hK; go_simp; refine (HN.out _ (hx1.trans z_x)).mono ?_; rintro e w2 ⟨rfl, hb2⟩; go_wp2_with fail; refine hK.out _ _ (pr_of z_x) (fun hHeld => ?_); clear hK K; try simp only [Act.put, z_3, z_4, z_5])
 iterate 4 (apply SeqH.free; (· (simp only [z_0, z_1, z_2]; rfl)); (· first | exact Or.inr ⟨by rfl, rfl⟩ | (refine Or.inl ⟨by rfl, ?_⟩; intro w hSw; (try dsimp only at hSw); go_simp; try with_reducible rfl)); try simp only [Act.put, z_3, z_4, z_5])
 refine SeqH.done ?_
 have hx2 := hx1.trans hHeld.2
 go_wp2_with fail
 go_ret
 exact ⟨rfl, hx2⟩
end Go.Proofs.YtaellcgglldjaaaGreat

