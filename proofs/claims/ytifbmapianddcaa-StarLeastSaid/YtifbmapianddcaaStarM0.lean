/- Walks of the reference's small functions of layer 10, and of what its laws share. -/
import Derived.Test.YtifbmapianddcaaStarJ
import Derived.Test.YtifbmapianddcaaGeom
import Derived.Test.YtifbmapianddcaaFloodI0
set_option linter.all false
set_option linter.unusedVariables false
set_option linter.unusedSimpArgs false
namespace Go.Proofs.Ytifbmapianddcaa
open Go.RowKit

theorem r10Abs_any (n : Int) (w : World) (h : -1000000 ≤ n ∧ n ≤ 1000000) : Calls Try.prog 71 #[.int .i64 n] w fun e w' => e = .returned (.int .i64 (absI n)) ∧ Ext w w' := by
  by_cases h0 : n < 0
  · have e0 : absI n = -n := if_pos h0
    have hb : decide (n < 0) = true := by simpa using h0
    have k : IntKind.i64.wrap (-n) = -n := IntWalk.i64_in _ (by omega)
    rw [e0]
    clear e0
    go_enter Try.func71, Try.ntmps71
    go_wp2
    go_ret
    exact ⟨rfl, (by (with_reducible (repeat' (first | exact Ext.refl _ | assumption | refine Ext.drew ?_ | refine Ext.drewN ?_ _ | refine Ext.alloc ?_ _ | refine Ext.setCell ?_ ?_ _ | refine Ext.trans ?_ (by assumption)))); all_goals (first | (simp; done) | (simp; omega)))⟩
  · have e0 : absI n = n := if_neg h0
    have hb : decide (n < 0) = false := by simpa using h0
    rw [e0]
    clear e0
    go_enter Try.func71, Try.ntmps71
    go_wp2
    go_ret
    exact ⟨rfl, (by (with_reducible (repeat' (first | exact Ext.refl _ | assumption | refine Ext.drew ?_ | refine Ext.drewN ?_ _ | refine Ext.alloc ?_ _ | refine Ext.setCell ?_ ?_ _ | refine Ext.trans ?_ (by assumption)))); all_goals (first | (simp; done) | (simp; omega)))⟩

theorem r10Guess_any (x y tx ty : Int) (w : World) (hx : 0 ≤ x ∧ x ≤ 1000) (hy : 0 ≤ y ∧ y ≤ 1000) (htx : 0 ≤ tx ∧ tx ≤ 1000) (hty : 0 ≤ ty ∧ ty ≤ 1000) :
    Calls Try.prog 20 #[.agg #[.int .i64 x, .int .i64 y], .agg #[.int .i64 tx, .int .i64 ty]] w fun e w' => e = .returned (.int .u64 (manh x y tx ty)) ∧ Ext w w' := by
  have H1 := hide (fun w' => r10Abs_any (x - tx) w' (by omega))
  have H2 := hide (fun w' => r10Abs_any (y - ty) w' (by omega))
  have b1 := absI_bd (n := x - tx) (by omega)
  have b2 := absI_bd (n := y - ty) (by omega)
  have k1 : IntKind.i64.wrap (x - tx) = x - tx := IntWalk.i64_in _ (by omega)
  have k2 : IntKind.i64.wrap (y - ty) = y - ty := IntWalk.i64_in _ (by omega)
  unfold manh
  generalize absI (x - tx) = p at *
  generalize absI (y - ty) = q at *
  have k3 : IntKind.i64.wrap (p + q) = p + q := IntWalk.i64_in _ (by omega)
  have k4 : IntKind.u64.wrap (p + q) = p + q := by rw [IntKind.wrap_u64]; omega
  go_enter Try.func20, Try.ntmps20
  go_wp2_with fail
  obtain ⟨w1, hw1⟩ : ∃ w1, w1 = (w.alloc (.cells #[.int .i64 x, .int .i64 y] 28)).alloc (.cells #[.int .i64 tx, .int .i64 ty] 28) := ⟨_, rfl⟩
  have hx1 : Ext w w1 := by rw [hw1]; exact (by (with_reducible (repeat' (first | exact Ext.refl _ | assumption | refine Ext.drew ?_ | refine Ext.drewN ?_ _ | refine Ext.alloc ?_ _ | refine Ext.setCell ?_ ?_ _ | refine Ext.trans ?_ (by assumption)))); all_goals (first | (simp; done) | (simp; omega)))
  have B1 := hide (show Blk w1 w.heap.size 28 #[.int .i64 x, .int .i64 y] by rw [hw1]; exact (Blk.new_ rfl).over)
  have B2 := hide (show Blk w1 (w.heap.size + 1) 28 #[.int .i64 tx, .int .i64 ty] by rw [hw1]; exact Blk.new_ (by simp))
  rw [← hw1]
  have b0 := B1.out.at 0 rfl; have b1 := B1.out.at 1 rfl; have bz := B1.out.lt
  have c0 := B2.out.at 0 rfl; have c1 := B2.out.at 1 rfl; have cz := B2.out.lt
  clear hw1
  refine seqH_start (S := (fun W => (∀ b o, b < w1.heap.size → W.cell? ⟨b, o, none⟩ = w1.cell? ⟨b, o, none⟩) ∧ Ext w1 W)) [(0, true), (1, true), (2, true), (3, true), (4, true), (6, true), (7, true), (8, true), (9, true), (10, true), (5, false), (11, false), (12, true), (13, true), (14, true)] (by kernel_rfl) (by kernel_rfl) (by kernel_rfl) (by decide) (fun _ _ d _ _ h => by cases d <;> exact h) (by first | with_reducible exact pr_start _ | exact pr_of (by (with_reducible (repeat' (first | exact Ext.refl _ | assumption | refine Ext.drew ?_ | refine Ext.drewN ?_ _ | refine Ext.alloc ?_ _ | refine Ext.setCell ?_ ?_ _ | refine Ext.trans ?_ (by assumption)))); all_goals (first | (simp; done) | (simp; omega)))) (fun hHeld => ?_)
  iterate 10 (apply SeqH.free; (· (simp only [List.getElem?_toArray, List.getElem?_cons_succ, List.getElem?_cons_zero]; rfl)); (· first | exact Or.inr ⟨by rfl, rfl⟩ | (refine Or.inl ⟨by rfl, ?_⟩; intro w hSw; (try dsimp only at hSw); go_simp; try with_reducible rfl)); try simp only [Act.put, List.setIfInBounds_toArray, List.set_cons_zero, List.set_cons_succ])
  (apply SeqH.step; (· (simp only [List.getElem?_toArray, List.getElem?_cons_succ, List.getElem?_cons_zero]; rfl)); intro K hK; go_simp; refine (H1.out _).mono ?_; rintro e w2 ⟨rfl, hb2⟩; go_wp2_with fail; refine hK.out _ _ (pr_of (by (with_reducible (repeat' (first | exact Ext.refl _ | assumption | refine Ext.drew ?_ | refine Ext.drewN ?_ _ | refine Ext.alloc ?_ _ | refine Ext.setCell ?_ ?_ _ | refine Ext.trans ?_ (by assumption)))); all_goals (first | (simp; done) | (simp; omega)))) (fun hHeld => ?_); clear hK K; try simp only [Act.put, List.setIfInBounds_toArray, List.set_cons_zero, List.set_cons_succ])
  (apply SeqH.step; (· (simp only [List.getElem?_toArray, List.getElem?_cons_succ, List.getElem?_cons_zero]; rfl)); intro K hK; go_simp; refine (H2.out _).mono ?_; rintro e w3 ⟨rfl, hb3⟩; go_wp2_with fail; refine hK.out _ _ (pr_of (by (with_reducible (repeat' (first | exact Ext.refl _ | assumption | refine Ext.drew ?_ | refine Ext.drewN ?_ _ | refine Ext.alloc ?_ _ | refine Ext.setCell ?_ ?_ _ | refine Ext.trans ?_ (by assumption)))); all_goals (first | (simp; done) | (simp; omega)))) (fun hHeld => ?_); clear hK K; try simp only [Act.put, List.setIfInBounds_toArray, List.set_cons_zero, List.set_cons_succ])
  iterate 3 (apply SeqH.free; (· (simp only [List.getElem?_toArray, List.getElem?_cons_succ, List.getElem?_cons_zero]; rfl)); (· first | exact Or.inr ⟨by rfl, rfl⟩ | (refine Or.inl ⟨by rfl, ?_⟩; intro w hSw; (try dsimp only at hSw); go_simp; try with_reducible rfl)); try simp only [Act.put, List.setIfInBounds_toArray, List.set_cons_zero, List.set_cons_succ])
  refine SeqH.done ?_
  have hx2 := hx1.trans hHeld.2
  go_wp2_with fail
  go_ret
  exact ⟨rfl, hx2.trans (by (with_reducible (repeat' (first | exact Ext.refl _ | assumption | refine Ext.drew ?_ | refine Ext.drewN ?_ _ | refine Ext.alloc ?_ _ | refine Ext.setCell ?_ ?_ _ | refine Ext.trans ?_ (by assumption)))); all_goals (first | (simp; done) | (simp; omega)))⟩

theorem r10In_any (W H x y : Int) (w : World) (hm : mayB W H = true) :
    Calls Try.prog 19 #[.agg #[.int .i64 W, .int .i64 H], .agg #[.int .i64 x, .int .i64 y]] w fun e w' => e = .returned (.bool (inB W H x y)) ∧ Ext w w' := by
  rw [inB_has hm]
  have e0 : hasB 0 0 W H x y = (decide (0 ≤ x) && decide (0 ≤ y) && decide (x < W) && decide (y < H)) := by
    rw [Bool.eq_iff_iff, hasB_true]
    simp
    omega
  rw [e0]
  clear hm e0
  go_enter Try.func19, Try.ntmps19
  go_wp2
  all_goals go_ret
  all_goals exact ⟨by simp <;> omega, (by (with_reducible (repeat' (first | exact Ext.refl _ | assumption | refine Ext.drew ?_ | refine Ext.drewN ?_ _ | refine Ext.alloc ?_ _ | refine Ext.setCell ?_ ?_ _ | refine Ext.trans ?_ (by assumption)))); all_goals (first | (simp; done) | (simp; omega)))⟩

theorem small10_any (W H : Int) (a : Option Addr) (n c : Nat) (w : World) : Calls Try.prog 15 #[.agg #[.int .i64 W, .int .i64 H, .slice a n c]] w fun e w' => e = .returned (.bool (decide ((n : Int) ≤ 150))) ∧ Ext w w' := by
  go_enter Try.func15, Try.ntmps15
  go_wp2
  go_ret
  exact ⟨rfl, (by (with_reducible (repeat' (first | exact Ext.refl _ | assumption | refine Ext.drew ?_ | refine Ext.drewN ?_ _ | refine Ext.alloc ?_ _ | refine Ext.setCell ?_ ?_ _ | refine Ext.trans ?_ (by assumption)))); all_goals (first | (simp; done) | (simp; omega)))⟩

set_option maxHeartbeats 400000 in
theorem cells10_some {w : World} {va vb : Value} {l : List Cell} (hl : l.length ≤ 1000000) (h0 : 0 < l.length) (ha : Reads cellE w va l) (hb : Reads cellE w vb l) :
    Calls Try.prog 63 #[va, vb] w fun e w' => e = .returned (.bool true) ∧ Ext w w' := by
  obtain ⟨b, off, c, rfl, hb1, h1⟩ := reads_cell ha h0
  obtain ⟨b', off', c', rfl, hb2, h2⟩ := reads_cell hb h0
  have H1 := hide h1
  have H2 := hide h2
  clear h1 h2 ha hb
  go_enter Try.func63, Try.ntmps63
  go_wp2
  go_loopw [5] (fun i wr => ∃ k : Nat, k ≤ l.length ∧ i = .int .i64 k ∧ Ext w wr) (fun i _ => l.length - (intOf i).toNat)
  case atStart => exact ⟨0, Nat.zero_le _, rfl, (by (with_reducible (repeat' (first | exact Ext.refl _ | assumption | refine Ext.drew ?_ | refine Ext.drewN ?_ _ | refine Ext.alloc ?_ _ | refine Ext.setCell ?_ ?_ _ | refine Ext.trans ?_ (by assumption)))); all_goals (first | (simp; done) | (simp; omega)))⟩
  case round =>
    obtain ⟨k, hk, rfl, hext⟩ := hrel
    by_cases hlt : k < l.length
    · obtain ⟨p, hp⟩ : ∃ p, l[k]? = some p := ⟨_, List.getElem?_eq_getElem hlt⟩
      have d1 := (hext.cell (p := ⟨b, off + k * 2, none⟩) hb1).trans (H1.out k p hp).1
      have d2 := (hext.cell (p := ⟨b, off + k * 2 + 1, none⟩) hb1).trans (H1.out k p hp).2
      have d3 := (hext.cell (p := ⟨b', off' + k * 2, none⟩) hb2).trans (H2.out k p hp).1
      have d4 := (hext.cell (p := ⟨b', off' + k * 2 + 1, none⟩) hb2).trans (H2.out k p hp).2
      have hq1 : ∀ w, (Op.equalIn 10000 28 (.agg #[.int .i64 p.1, .int .i64 p.2]) (.agg #[.int .i64 p.1, .int .i64 p.2])).run Try.prog w = .ok true w := fun w => by rw [eq_cell p p w]; simp [cellB]
      clear hp
      go_wp2
      go_quiet (fail)
      go_wp2
      go_roundw
      case rel => exact ⟨k + 1, by omega, by go_num, (by (with_reducible (repeat' (first | exact Ext.refl _ | assumption | refine Ext.drew ?_ | refine Ext.drewN ?_ _ | refine Ext.alloc ?_ _ | refine Ext.setCell ?_ ?_ _ | refine Ext.trans ?_ (by assumption)))); all_goals (first | (simp; done) | (simp; omega)))⟩
      case measure => simp [intOf]; omega
    · go_wp2
      go_ret
      exact ⟨rfl, (by (with_reducible (repeat' (first | exact Ext.refl _ | assumption | refine Ext.drew ?_ | refine Ext.drewN ?_ _ | refine Ext.alloc ?_ _ | refine Ext.setCell ?_ ?_ _ | refine Ext.trans ?_ (by assumption)))); all_goals (first | (simp; done) | (simp; omega)))⟩
theorem cells10_none (a b : Option Addr) (c d : Nat) (w : World) : Calls Try.prog 63 #[.slice a 0 c, .slice b 0 d] w fun e w' => e = .returned (.bool true) ∧ Ext w w' := by
  go_enter Try.func63, Try.ntmps63
  go_wp2
  go_loopw [5] (fun i wr => i = .int .i64 0 ∧ Ext w wr) (fun i _ => 0)
  case atStart => exact ⟨rfl, (by (with_reducible (repeat' (first | exact Ext.refl _ | assumption | refine Ext.drew ?_ | refine Ext.drewN ?_ _ | refine Ext.alloc ?_ _ | refine Ext.setCell ?_ ?_ _ | refine Ext.trans ?_ (by assumption)))); all_goals (first | (simp; done) | (simp; omega)))⟩
  case round =>
    obtain ⟨rfl, hext⟩ := hrel
    go_wp2
    go_ret
    exact ⟨rfl, (by (with_reducible (repeat' (first | exact Ext.refl _ | assumption | refine Ext.drew ?_ | refine Ext.drewN ?_ _ | refine Ext.alloc ?_ _ | refine Ext.setCell ?_ ?_ _ | refine Ext.trans ?_ (by assumption)))); all_goals (first | (simp; done) | (simp; omega)))⟩
theorem cells10_any {w : World} {va vb : Value} {l : List Cell} (hl : l.length ≤ 1000000) (ha : Reads cellE w va l) (hb : Reads cellE w vb l) :
    Calls Try.prog 63 #[va, vb] w fun e w' => e = .returned (.bool true) ∧ Ext w w' := by
  by_cases h0 : 0 < l.length
  · exact cells10_some hl h0 ha hb
  · obtain ⟨a, c, rfl⟩ := ha.slice
    obtain ⟨b, d, rfl⟩ := hb.slice
    rw [show l.length = 0 by omega]
    exact cells10_none a b c d w

end Go.Proofs.Ytifbmapianddcaa
