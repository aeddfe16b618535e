/- Walks of geom's apart and Walk, and of the search's number, cost, key. -/
import Derived.Test.YtifbmapianddcaaStarB
import Derived.Test.YtifbmapianddcaaStarP
set_option linter.all false
set_option linter.unusedVariables false
set_option linter.unusedSimpArgs false
namespace Go.Proofs.Ytifbmapianddcaa
open Go.RowKit

def absI (n : Int) : Int := if n < 0 then -n else n
/-- How far two cells lie apart without walls. -/
def manh (x y tx ty : Int) : Int := absI (x - tx) + absI (y - ty)

set_option maxRecDepth 100000 in
theorem gApart_any (x y tx ty : Int) (w : World) (hx : 0 ≤ x ∧ x ≤ 1000) (hy : 0 ≤ y ∧ y ≤ 1000) (htx : 0 ≤ tx ∧ tx ≤ 1000) (hty : 0 ≤ ty ∧ ty ≤ 1000) :
    Calls Try.prog 190 #[.agg #[.int .i64 x, .int .i64 y], .agg #[.int .i64 tx, .int .i64 ty]] w fun e w' => e = .returned (.tuple #[.int .i64 (absI (x - tx)), .int .i64 (absI (y - ty)), .int .i64 0]) ∧ Ext w w' := by
  have s1 : simpleB x y = true := by simp only [simpleB, Bool.and_eq_true, betw_true]; omega
  have s2 : simpleB tx ty = true := by simp only [simpleB, Bool.and_eq_true, betw_true]; omega
  have H1 := hide (fun w' => simple_any x y w')
  have H2 := hide (fun w' => simple_any tx ty w')
  rw [s1] at H1
  rw [s2] at H2
  have e1 := hide (show IntKind.i64.wrap ((if x < tx then tx else x) - if tx < x then tx else x) = absI (x - tx) by
    rw [show ((if x < tx then tx else x) - if tx < x then tx else x) = absI (x - tx) by unfold absI; split <;> split <;> split <;> omega]
    exact IntWalk.i64_in _ (by unfold absI; split <;> omega))
  have e2 := hide (show IntKind.i64.wrap ((if y < ty then ty else y) - if ty < y then ty else y) = absI (y - ty) by
    rw [show ((if y < ty then ty else y) - if ty < y then ty else y) = absI (y - ty) by unfold absI; split <;> split <;> split <;> omega]
    exact IntWalk.i64_in _ (by unfold absI; split <;> omega))
  clear s1 s2
  go_enter Try.func190, Try.ntmps190
  go_wp2_with fail
  refine (H1.out _).mono ?_
  rintro e w1 ⟨rfl, hb1⟩
  obtain ⟨hc1, hf1⟩ := hb1.cells; have hz1 := hb1.size; (repeat (first | rw [World.size_alloc] at hz1 | rw [World.size_drew] at hz1)); have z1_0 : w.heap.size < w1.heap.size := (by omega); have z1_1 : w.heap.size + 1 < w1.heap.size := (by omega)
  go_wp2_with fail
  refine (H2.out _).mono ?_
  rintro e w2 ⟨rfl, hb2⟩
  obtain ⟨hc2, hf2⟩ := hb2.cells; have hz2 := hb2.size; (repeat (first | rw [World.size_alloc] at hz2 | rw [World.size_drew] at hz2)); have z2_0 : w.heap.size < w2.heap.size := (by omega); have z2_1 : w.heap.size + 1 < w2.heap.size := (by omega)
  go_wp2_with fail
  refine seqH_start (S := (fun W => (∀ b o, b < w2.heap.size → W.cell? ⟨b, o, none⟩ = w2.cell? ⟨b, o, none⟩) ∧ Ext w2 W)) [(0, true), (1, true), (2, true), (3, true), (4, true), (5, true), (6, true), (7, true), (8, true), (9, true), (10, true), (11, true), (12, true), (13, true), (14, true), (15, true), (16, true), (17, true), (18, true), (19, true), (20, true), (21, true), (22, true), (23, true), (24, true)] (by kernel_rfl) (by kernel_rfl) (by kernel_rfl) (by decide) (fun _ _ d _ _ h => by cases d <;> exact h) (by first | with_reducible exact pr_start _ | exact pr_of (by (with_reducible (repeat' (first | exact Ext.refl _ | assumption | refine Ext.drew ?_ | refine Ext.drewN ?_ _ | refine Ext.alloc ?_ _ | refine Ext.setCell ?_ ?_ _ | refine Ext.trans ?_ (by assumption)))); all_goals (first | (simp; done) | (simp; omega)))) (fun hHeld => ?_)
  iterate 25 (apply SeqH.free; (· (simp only [List.getElem?_toArray, List.getElem?_cons_succ, List.getElem?_cons_zero]; rfl)); (· first | exact Or.inr ⟨by rfl, rfl⟩ | (refine Or.inl ⟨by rfl, ?_⟩; intro w hSw; (try dsimp only at hSw); go_simp; try with_reducible rfl)); try simp only [Act.put, List.setIfInBounds_toArray, List.set_cons_zero, List.set_cons_succ])
  refine SeqH.done ?_
  rw [e1.out, e2.out]
  generalize (if x < tx then tx else x) = m1
  generalize (if tx < x then tx else x) = m2
  generalize (if y < ty then ty else y) = m3
  generalize (if ty < y then ty else y) = m4
  clear e1 e2
  go_wp2_with fail
  exact bodyPost_ret (v := .tuple #[.int .i64 (absI (x - tx)), .int .i64 (absI (y - ty)), .int .i64 0]) (by simp [results, Try.results190, go_sem, *]) rfl ⟨rfl, (by (with_reducible (repeat' (first | exact Ext.refl _ | assumption | refine Ext.drew ?_ | refine Ext.drewN ?_ _ | refine Ext.alloc ?_ _ | refine Ext.setCell ?_ ?_ _ | refine Ext.trans ?_ (by assumption)))); all_goals (first | (simp; done) | (simp; omega)))⟩

theorem absI_bd {n : Int} (h : -1000 ≤ n ∧ n ≤ 1000) : 0 ≤ absI n ∧ absI n ≤ 1000 := by unfold absI; split <;> omega
theorem manh_bd {x y tx ty : Int} (hx : 0 ≤ x ∧ x ≤ 1000) (hy : 0 ≤ y ∧ y ≤ 1000) (htx : 0 ≤ tx ∧ tx ≤ 1000) (hty : 0 ≤ ty ∧ ty ≤ 1000) : 0 ≤ manh x y tx ty ∧ manh x y tx ty ≤ 2000 := by
  have h1 := absI_bd (n := x - tx) (by omega)
  have h2 := absI_bd (n := y - ty) (by omega)
  unfold manh
  omega

theorem gWalk_any (x y tx ty : Int) (w : World) (hx : 0 ≤ x ∧ x ≤ 1000) (hy : 0 ≤ y ∧ y ≤ 1000) (htx : 0 ≤ tx ∧ tx ≤ 1000) (hty : 0 ≤ ty ∧ ty ≤ 1000) :
    Calls Try.prog 155 #[.agg #[.int .i64 x, .int .i64 y], .agg #[.int .i64 tx, .int .i64 ty]] w fun e w' => e = .returned (.tuple #[.int .i64 (manh x y tx ty), .int .i64 0]) ∧ Ext w w' := by
  have H1 := hide (fun w' => gApart_any x y tx ty w' hx hy htx hty)
  have b1 := absI_bd (n := x - tx) (by omega)
  have b2 := absI_bd (n := y - ty) (by omega)
  unfold manh
  generalize absI (x - tx) = p at *
  generalize absI (y - ty) = q at *
  go_enter Try.func155, Try.ntmps155
  go_wp2_with fail
  refine (H1.out _).mono ?_
  rintro e w1 ⟨rfl, hb1⟩
  go_wp2_with fail
  exact bodyPost_ret (v := .tuple #[.int .i64 (p + q), .int .i64 0]) (by simp [results, Try.results155, go_sem, *]) rfl ⟨rfl, (by (with_reducible (repeat' (first | exact Ext.refl _ | assumption | refine Ext.drew ?_ | refine Ext.drewN ?_ _ | refine Ext.alloc ?_ _ | refine Ext.setCell ?_ ?_ _ | refine Ext.trans ?_ (by assumption)))); all_goals (first | (simp; done) | (simp; omega)))⟩

/-- A search's own block. -/
def SeaAt (w : World) (sb : Nat) (W H : Int) (a : Option Addr) (n c : Nat) (tx ty : Int) (h mg mc : Nat) (k : Int) : Prop :=
  Blk w sb 123 #[.int .i64 W, .int .i64 H, .slice a n c, .int .i64 tx, .int .i64 ty, .pointer (some ⟨h, 0, none⟩), .map (some mg), .map (some mc), .int .i64 k]

theorem sNumber_any {w : World} {sb : Nat} {W H : Int} {a : Option Addr} {n c : Nat} {tx ty : Int} {h mg mc : Nat} {k : Int} (S : SeaAt w sb W H a n c tx ty h mg mc k) (x y : Int) (hx : 0 ≤ x ∧ x ≤ 1000) (hy : 0 ≤ y ∧ y ≤ 1000) (hW : 0 ≤ W ∧ W ≤ 1000) :
    Calls Try.prog 112 #[.pointer (some ⟨sb, 0, none⟩), .agg #[.int .i64 x, .int .i64 y]] w fun e w' => e = .returned (.int .i64 (y * W + x)) ∧ Ext w w' := by
  have hw0 := S.at 0 rfl
  have hz := Blk.lt S
  have m0 := mul_bd (a := y) (b := W) (A := 1000) (B := 1000) (by omega) (by omega) (by omega) (by omega)
  have k1 : IntKind.i64.wrap (y * W) = y * W := IntWalk.i64_in _ (by omega)
  have k2 : IntKind.i64.wrap (y * W + x) = y * W + x := IntWalk.i64_in _ (by omega)
  clear S m0
  go_enter Try.func112, Try.ntmps112
  go_wp2_with fail
  obtain ⟨w1, hw1⟩ : ∃ w1, w1 = w.alloc (.cells #[.int .i64 x, .int .i64 y] 28) := ⟨_, rfl⟩
  have hx1 : Ext w w1 := by rw [hw1]; exact (Ext.refl _).alloc _
  have B := hide (show Blk w1 w.heap.size 28 #[.int .i64 x, .int .i64 y] by rw [hw1]; exact Blk.new_ rfl)
  have q := (hx1.cell (p := ⟨sb, 0, none⟩) hz).trans hw0
  have hz1 := Nat.lt_of_lt_of_le hz hx1.size
  rw [← hw1]
  have b0 := B.out.at 0 rfl; have b1 := B.out.at 1 rfl; have bz := B.out.lt
  clear hw1 hw0
  refine seqH_start (S := (fun W => (∀ b o, b < w1.heap.size → W.cell? ⟨b, o, none⟩ = w1.cell? ⟨b, o, none⟩) ∧ Ext w1 W)) [(0, true), (1, true), (2, true), (3, true), (4, true), (5, true), (6, true), (7, true), (8, true), (9, true), (10, true), (11, true), (12, true)] (by kernel_rfl) (by kernel_rfl) (by kernel_rfl) (by decide) (fun _ _ d _ _ h => by cases d <;> exact h) (by first | with_reducible exact pr_start _ | exact pr_of (by (with_reducible (repeat' (first | exact Ext.refl _ | assumption | refine Ext.drew ?_ | refine Ext.drewN ?_ _ | refine Ext.alloc ?_ _ | refine Ext.setCell ?_ ?_ _ | refine Ext.trans ?_ (by assumption)))); all_goals (first | (simp; done) | (simp; omega)))) (fun hHeld => ?_)
  iterate 13 (apply SeqH.free; (· (simp only [List.getElem?_toArray, List.getElem?_cons_succ, List.getElem?_cons_zero]; rfl)); (· first | exact Or.inr ⟨by rfl, rfl⟩ | (refine Or.inl ⟨by rfl, ?_⟩; intro w hSw; (try dsimp only at hSw); go_simp; try with_reducible rfl)); try simp only [Act.put, List.setIfInBounds_toArray, List.set_cons_zero, List.set_cons_succ])
  refine SeqH.done ?_
  go_wp2_with fail
  go_ret
  exact ⟨rfl, hx1.trans (by (with_reducible (repeat' (first | exact Ext.refl _ | assumption | refine Ext.drew ?_ | refine Ext.drewN ?_ _ | refine Ext.alloc ?_ _ | refine Ext.setCell ?_ ?_ _ | refine Ext.trans ?_ (by assumption)))); all_goals (first | (simp; done) | (simp; omega)))⟩

theorem sCost_any {w : World} {sb : Nat} {W H : Int} {a : Option Addr} {l : List Int} {c : Nat} {tx ty : Int} {h mg mc : Nat} {k : Int} (S : SeaAt w sb W H a l.length c tx ty h mg mc k) (hm : mayB W H = true) (hl : (l.length : Int) = W * H) (hr : Row16 w a l) (hu : U16s l) (x y : Int) (h1 : 0 ≤ x) (h2 : x < W) (h3 : 0 ≤ y) (h4 : y < H) :
    Calls Try.prog 68 #[.pointer (some ⟨sb, 0, none⟩), .agg #[.int .i64 x, .int .i64 y]] w fun e w' => e = .returned (.int .u64 (costI l W (x, y))) ∧ Ext w w' := by
  obtain ⟨m1, m2, m3, m4⟩ := mayB_true.1 hm
  obtain ⟨b, off, rfl, hb, hc⟩ := cost_cell hr hl h1 h2 h3 h4
  have cb := costI_bd hu W (x, y)
  have ib := idx_bd h1 h2 h3 h4
  have HN := hide (fun (w' : World) (hx : Ext w w') => sNumber_any (Blk.ext S hx) x y (by omega) (by omega) (by omega))
  have q2 := S.at 2 rfl
  have hz := Blk.lt S
  have ki : ((idxN W (x, y) : Nat) : Int) = y * W + x := idx_int h1 (by omega) h3
  rw [← ki] at HN
  rw [show (y * W + x).toNat = idxN W (x, y) from rfl] at hc
  have kl : ((idxN W (x, y) : Nat) : Int) < (l.length : Int) := by omega
  generalize idxN W (x, y) = v at *
  generalize costI l W (x, y) = cst at *
  obtain ⟨n, hn⟩ : ∃ n, l.length = n := ⟨_, rfl⟩
  rw [hn] at q2 kl
  have k3 : IntKind.u64.wrap cst = cst := by rw [IntKind.wrap_u64]; omega
  clear S hm hl hr hu h1 h2 h3 h4 ib hn m1 m2 m3 m4 ki
  go_enter Try.func68, Try.ntmps68
  go_wp2_with fail
  obtain ⟨w1, hw1⟩ : ∃ w1, w1 = w.alloc (.cells #[.int .i64 x, .int .i64 y] 28) := ⟨_, rfl⟩
  have hx1 : Ext w w1 := by rw [hw1]; exact (Ext.refl _).alloc _
  have B := hide (show Blk w1 w.heap.size 28 #[.int .i64 x, .int .i64 y] by rw [hw1]; exact Blk.new_ rfl)
  have q := (hx1.cell (p := ⟨sb, 2, none⟩) hz).trans q2
  have hc1 := (hx1.cell (p := ⟨b, off + v, none⟩) hb).trans hc
  have hz1 := Nat.lt_of_lt_of_le hz hx1.size
  have hb1 := Nat.lt_of_lt_of_le hb hx1.size
  rw [← hw1]
  have b0 := B.out.at 0 rfl; have b1 := B.out.at 1 rfl; have bz := B.out.lt
  clear hw1 q2 hc
  refine seqH_start (S := (fun W => (∀ b o, b < w1.heap.size → W.cell? ⟨b, o, none⟩ = w1.cell? ⟨b, o, none⟩) ∧ Ext w1 W)) [(0, true), (1, true), (2, true), (3, true), (4, true), (5, true), (6, true), (7, false), (8, true), (9, true), (10, true), (11, true)] (by kernel_rfl) (by kernel_rfl) (by kernel_rfl) (by decide) (fun _ _ d _ _ h => by cases d <;> exact h) (by first | with_reducible exact pr_start _ | exact pr_of (by (with_reducible (repeat' (first | exact Ext.refl _ | assumption | refine Ext.drew ?_ | refine Ext.drewN ?_ _ | refine Ext.alloc ?_ _ | refine Ext.setCell ?_ ?_ _ | refine Ext.trans ?_ (by assumption)))); all_goals (first | (simp; done) | (simp; omega)))) (fun hHeld => ?_)
  iterate 7 (apply SeqH.free; (· (simp only [List.getElem?_toArray, List.getElem?_cons_succ, List.getElem?_cons_zero]; rfl)); (· first | exact Or.inr ⟨by rfl, rfl⟩ | (refine Or.inl ⟨by rfl, ?_⟩; intro w hSw; (try dsimp only at hSw); go_simp; try with_reducible rfl)); try simp only [Act.put, List.setIfInBounds_toArray, List.set_cons_zero, List.set_cons_succ])
  (apply SeqH.step; (· (simp only [List.getElem?_toArray, List.getElem?_cons_succ, List.getElem?_cons_zero]; rfl)); intro K hK; go_simp; refine (HN.out _ (hx1.trans (by (with_reducible (repeat' (first | exact Ext.refl _ | assumption | refine Ext.drew ?_ | refine Ext.drewN ?_ _ | refine Ext.alloc ?_ _ | refine Ext.setCell ?_ ?_ _ | refine Ext.trans ?_ (by assumption)))); all_goals (first | (simp; done) | (simp; omega))))).mono ?_; rintro e w2 ⟨rfl, hb2⟩; go_wp2_with fail; refine hK.out _ _ (pr_of (by (with_reducible (repeat' (first | exact Ext.refl _ | assumption | refine Ext.drew ?_ | refine Ext.drewN ?_ _ | refine Ext.alloc ?_ _ | refine Ext.setCell ?_ ?_ _ | refine Ext.trans ?_ (by assumption)))); all_goals (first | (simp; done) | (simp; omega)))) (fun hHeld => ?_); clear hK K; try simp only [Act.put, List.setIfInBounds_toArray, List.set_cons_zero, List.set_cons_succ])
  iterate 4 (apply SeqH.free; (· (simp only [List.getElem?_toArray, List.getElem?_cons_succ, List.getElem?_cons_zero]; rfl)); (· first | exact Or.inr ⟨by rfl, rfl⟩ | (refine Or.inl ⟨by rfl, ?_⟩; intro w hSw; (try dsimp only at hSw); go_simp; try with_reducible rfl)); try simp only [Act.put, List.setIfInBounds_toArray, List.set_cons_zero, List.set_cons_succ])
  refine SeqH.done ?_
  have hx2 := hx1.trans hHeld.2
  go_wp2_with fail
  go_ret
  exact ⟨rfl, hx2⟩
end Go.Proofs.Ytifbmapianddcaa
