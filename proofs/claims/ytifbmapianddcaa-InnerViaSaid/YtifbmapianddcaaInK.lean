/- The example of chapter 13. -/
import Derived.Test.YtifbmapianddcaaInH
set_option linter.all false
set_option linter.unusedVariables false
set_option linter.unusedSimpArgs false
namespace Go.Proofs.Ytifbmapianddcaa
open Go.RowKit

theorem rowsU_of {w : World} {base : Nat} {v : Value} {ll : List (List Int)} (h : RowsAt w base v ll) : ∃ a c, v = .slice a ll.length c ∧ RowsU w a ll := by
  obtain ⟨ss, h1, h2, h3⟩ := h
  obtain ⟨a, c, hv⟩ := h1.slice
  subst hv
  refine ⟨a, c, by rw [h2], fun h0 => ?_⟩
  rcases h1.2 with ⟨_, hz⟩ | ⟨g, cap, cur, hv, _⟩
  · omega
  · injection hv with ha hb hc
    subst ha
    have hrd := Reads.cells h1.reads
    refine ⟨g, 0, rfl, hrd.1, fun k hk => ?_⟩
    have hks : k < ss.length := by omega
    have hown := h3 k ss[k] ll[k] (List.getElem?_eq_getElem hks) (List.getElem?_eq_getElem hk)
    have hcell := hrd.2.2 k ss[k] (List.getElem?_eq_getElem hks) 0 (.slice ss[k].1 ss[k].2.1 ss[k].2.2) rfl
    have hru := Reads.rowU hown.reads
    refine ⟨ss[k].1, ss[k].2.2, ?_, hru.2⟩
    rw [← hru.1]
    simpa [sliceE] using hcell
theorem RowsAt.u {w : World} {base n c : Nat} {a : Option Addr} {ll : List (List Int)} (h : RowsAt w base (.slice a n c) ll) : RowsU w a ll := by
  obtain ⟨x, y, e, h2⟩ := rowsU_of h
  cases e
  exact h2

theorem row8 {w : World} {b : Nat} {a0 a1 a2 a3 a4 a5 a6 a7 : Int} (h : Blk w b 46 #[.int .u16 a0, .int .u16 a1, .int .u16 a2, .int .u16 a3, .int .u16 a4, .int .u16 a5, .int .u16 a6, .int .u16 a7]) : Row16 w (some ⟨b, 0, none⟩) [a0, a1, a2, a3, a4, a5, a6, a7] := fun _ => by
  refine ⟨b, 0, rfl, h.lt, fun k hk => ?_⟩
  have hk6 : k < 8 := hk
  obtain rfl | rfl | rfl | rfl | rfl | rfl | rfl | rfl : k = 0 ∨ k = 1 ∨ k = 2 ∨ k = 3 ∨ k = 4 ∨ k = 5 ∨ k = 6 ∨ k = 7 := by omega
  · exact h.at 0 rfl
  · exact h.at 1 rfl
  · exact h.at 2 rfl
  · exact h.at 3 rfl
  · exact h.at 4 rfl
  · exact h.at 5 rfl
  · exact h.at 6 rfl
  · exact h.at 7 rfl
theorem rowc3 {w : World} {b : Nat} {a0 a1 a2 b0 b1 b2 : Int} (h : Blk w b 28 #[.int .i64 a0, .int .i64 b0, .int .i64 a1, .int .i64 b1, .int .i64 a2, .int .i64 b2]) : RowC w (some ⟨b, 0, none⟩) [(a0, b0), (a1, b1), (a2, b2)] := fun _ => by
  refine ⟨b, 0, rfl, h.lt, fun k hk => ?_⟩
  have hk6 : k < 3 := hk
  obtain rfl | rfl | rfl : k = 0 ∨ k = 1 ∨ k = 2 := by omega
  · exact ⟨h.at 0 rfl, h.at 1 rfl⟩
  · exact ⟨h.at 2 rfl, h.at 3 rfl⟩
  · exact ⟨h.at 4 rfl, h.at 5 rfl⟩
theorem rowu3 {w : World} {b : Nat} {a0 a1 a2 : Int} (h : Blk w b 38 #[.int .u64 a0, .int .u64 a1, .int .u64 a2]) : RowU w (some ⟨b, 0, none⟩) [a0, a1, a2] := fun _ => by
  refine ⟨b, 0, rfl, h.lt, fun k hk => ?_⟩
  have hk6 : k < 3 := hk
  obtain rfl | rfl | rfl : k = 0 ∨ k = 1 ∨ k = 2 := by omega
  · exact h.at 0 rfl
  · exact h.at 1 rfl
  · exact h.at 2 rfl
theorem rowsu3 {w : World} {b b0 b1 b2 : Nat} {x y z : List Int} (hx : x.length = 3) (hy : y.length = 3) (hz : z.length = 3) (h : Blk w b 33 #[.slice (some ⟨b0, 0, none⟩) 3 3, .slice (some ⟨b1, 0, none⟩) 3 3, .slice (some ⟨b2, 0, none⟩) 3 3]) (h0 : RowU w (some ⟨b0, 0, none⟩) x) (h1 : RowU w (some ⟨b1, 0, none⟩) y) (h2 : RowU w (some ⟨b2, 0, none⟩) z) : RowsU w (some ⟨b, 0, none⟩) [x, y, z] := fun _ => by
  refine ⟨b, 0, rfl, h.lt, fun k hk => ?_⟩
  have hk6 : k < 3 := hk
  obtain rfl | rfl | rfl : k = 0 ∨ k = 1 ∨ k = 2 := by omega
  · exact ⟨_, 3, by simp only [List.getElem_cons_zero, hx]; exact h.at 0 rfl, h0⟩
  · exact ⟨_, 3, by simp only [List.getElem_cons_succ, List.getElem_cons_zero, hy]; exact h.at 1 rfl, h1⟩
  · exact ⟨_, 3, by simp only [List.getElem_cons_succ, List.getElem_cons_zero, hz]; exact h.at 2 rfl, h2⟩
theorem awC_in : ∀ p ∈ awC, InI p.1 ∧ InI p.2 := by
  intro p hp
  simp only [awC, List.mem_cons, List.not_mem_nil, or_false] at hp
  rcases hp with rfl | rfl | rfl <;> (unfold InI; decide)

set_option maxRecDepth 100000 in
set_option maxHeartbeats 1000000 in
theorem awake13_any (w : World) : Calls Try.prog 24 #[] w fun e w' => e = .returned (.bool true) ∧ Ext w w' := by
  have HO := hide (fun (w' : World) (rb cb : Nat) (h1 : Row16 w' (some ⟨rb, 0, none⟩) awI) (h2 : RowC w' (some ⟨cb, 0, none⟩) awC) => iOf_ok (w := w') (W := 4) (H := 2) (l := awI) 8 (PW := 4) (PH := 2) (s := 2) (id := 0) (cs := awC) 3 h1 awI_u16 h2 (by decide) awC_in aw_inner awI_box)
  have HT := hide (fun (w' : World) (rb : Nat) (ca ra : Option Addr) (cc rc : Nat) (h1 : Row16 w' (some ⟨rb, 0, none⟩) awI) (h2 : RowC w' ca awC) => iTo_ok (w := w') (W := 4) (H := 2) (l := awI) 8 (PW := 4) (PH := 2) (s := 2) (id := 0) (cs := awC) cc ra 3 rc (p := (0, 1)) h1 h2 (by decide) awC_in aw_toE awI_box)
  have HB := hide (fun (w' : World) (rb : Nat) (ca ra : Option Addr) (cc rc : Nat) (h1 : Row16 w' (some ⟨rb, 0, none⟩) awI) (h2 : RowC w' ca awC) => iBack_ok (w := w') (W := 4) (H := 2) (l := awI) 8 (PW := 4) (PH := 2) (s := 2) (id := 0) (cs := awC) cc ra 3 rc (p := (0, 1)) h1 h2 (by decide) awC_in aw_toE awI_box)
  rw [aw_rows] at HO
  rw [aw_to] at HT
  rw [aw_back] at HB
  go_enter Try.func24, Try.ntmps24
  go_wp2_with fail
  obtain ⟨w0, hw0⟩ : ∃ w0, w0 = (((w.alloc (.cells #[.int .u16 1, .int .u16 5, .int .u16 1, .int .u16 1, .int .u16 1, .int .u16 1, .int .u16 1, .int .u16 1] 46)).alloc (.cells #[.int .i64 4, .int .i64 2, .slice (some ⟨w.heap.size, 0, none⟩) 8 8] 26)).alloc (.cells #[.int .i64 4, .int .i64 2, .int .i64 2] 51)).alloc (.cells #[.int .i64 0, .int .i64 0, .int .i64 1, .int .i64 0, .int .i64 1, .int .i64 1] 28) := ⟨_, rfl⟩
  have hx0 : Ext w w0 := by rw [hw0]; exact (by (with_reducible (repeat' (first | exact Ext.refl _ | assumption | refine Ext.drew ?_ | refine Ext.drewN ?_ _ | refine Ext.alloc ?_ _ | refine Ext.setCell ?_ ?_ _ | refine Ext.trans ?_ (by assumption)))); all_goals (first | (simp; done) | (simp; omega)))
  have R0 := hide (show Blk w0 w.heap.size 46 #[.int .u16 1, .int .u16 5, .int .u16 1, .int .u16 1, .int .u16 1, .int .u16 1, .int .u16 1, .int .u16 1] by rw [hw0]; exact (Blk.new_ rfl).over.over.over)
  have F0 := hide (show Blk w0 (w.heap.size + 1) 26 #[.int .i64 4, .int .i64 2, .slice (some ⟨w.heap.size, 0, none⟩) 8 8] by rw [hw0]; exact (Blk.new_ (by simp)).over.over)
  have P0 := hide (show Blk w0 (w.heap.size + 2) 51 #[.int .i64 4, .int .i64 2, .int .i64 2] by rw [hw0]; exact (Blk.new_ (by simp)).over)
  have C0 := hide (show Blk w0 (w.heap.size + 3) 28 #[.int .i64 0, .int .i64 0, .int .i64 1, .int .i64 0, .int .i64 1, .int .i64 1] by rw [hw0]; exact Blk.new_ (by simp))
  rw [← hw0]
  clear hw0
  refine (HO.out w0 _ (w.heap.size + 3) (row8 R0.out) (rowc3 C0.out)).mono ?_
  rintro e w1 ⟨v1, v2, rfl, hx1, ho1, hr1⟩
  obtain ⟨ca, cc, hv1⟩ : ∃ a c, v1 = .slice a 3 c := ho1.slice
  subst hv1
  obtain ⟨ra, rc, hv2, hru⟩ := rowsU_of hr1
  subst hv2
  have R1 := hide (Blk.ext R0.out hx1)
  have F1 := hide (Blk.ext F0.out hx1)
  have P1 := hide (Blk.ext P0.out hx1)
  have C1 := hide ho1.reads.rowC.2
  have U1 := hide hru
  have X1 := hide (hx0.trans hx1)
  have f0 := F1.out.at 0 rfl; have f1 := F1.out.at 1 rfl; have f2 := F1.out.at 2 rfl; have fz := F1.out.lt
  have p0 := P1.out.at 0 rfl; have p1 := P1.out.at 1 rfl; have p2 := P1.out.at 2 rfl; have pz := P1.out.lt
  clear hx0 hx1 ho1 hr1 hru R0 F0 P0 C0
  simp only [List.length_cons, List.length_nil, Nat.zero_add, Nat.reduceAdd]
  go_wp2_with fail
  obtain ⟨w2, hw2⟩ : ∃ w2, w2 = w1.alloc (.cells #[.slice ca 3 cc, .slice ra 3 rc] 57) := ⟨_, rfl⟩
  have hx2 : Ext w1 w2 := by rw [hw2]; exact (Ext.refl _).alloc _
  have T2 := hide (show Blk w2 w1.heap.size 57 #[.slice ca 3 cc, .slice ra 3 rc] by rw [hw2]; exact Blk.new_ rfl)
  have R2 := hide (Blk.ext R1.out hx2)
  have F2 := hide (Blk.ext F1.out hx2)
  have P2 := hide (Blk.ext P1.out hx2)
  have C2 := hide (C1.out.ext hx2)
  have U2 := hide (U1.out.ext hx2)
  have X2 := hide (X1.out.trans hx2)
  rw [← hw2]
  obtain ⟨tb, htb⟩ : ∃ z, w1.heap.size = z := ⟨_, rfl⟩
  rw [htb] at T2 ⊢
  clear hw2 hx2 htb f0 f1 f2 fz p0 p1 p2 pz R1 F1 P1 C1 U1 X1
  refine (HT.out w2 _ ca ra cc rc (row8 R2.out) C2.out).mono ?_
  rintro e w3 ⟨sv, rfl, hx3, ho3⟩
  have R3 := hide (Blk.ext R2.out hx3)
  have F3 := hide (Blk.ext F2.out hx3)
  have P3 := hide (Blk.ext P2.out hx3)
  have T3 := hide (Blk.ext T2.out hx3)
  have C3 := hide (C2.out.ext hx3)
  have U3 := hide (U2.out.ext hx3)
  have X3 := hide (X2.out.trans hx3)
  obtain ⟨s1, s2, s3⟩ := sv
  simp only at ho3 ⊢
  have A3 := hide ho3.reads.rowU
  have f0 := F3.out.at 0 rfl; have f1 := F3.out.at 1 rfl; have f2 := F3.out.at 2 rfl; have fz := F3.out.lt
  have p0 := P3.out.at 0 rfl; have p1 := P3.out.at 1 rfl; have p2 := P3.out.at 2 rfl; have pz := P3.out.lt
  have t0 := T3.out.at 0 rfl; have t1 := T3.out.at 1 rfl; have tz := T3.out.lt
  clear hx3 ho3 R2 F2 P2 C2 U2 X2 T2
  go_wp2_with fail
  refine (HB.out w3 _ ca ra cc rc (row8 R3.out) C3.out).mono ?_
  rintro e w4 ⟨v4, rfl, hx4, ho4⟩
  obtain ⟨ba, bc, hv4⟩ : ∃ a c, v4 = .slice a 3 c := ho4.slice
  subst hv4
  have T4 := hide (Blk.ext T3.out hx4)
  have U4 := hide (U3.out.ext hx4)
  have X4 := hide (X3.out.trans hx4)
  have A4 := hide (A3.out.2.ext hx4)
  have hs2 : s2 = 3 := A3.out.1
  subst hs2
  have B4 := hide ho4.reads.rowU.2
  clear hx4 ho4 R3 F3 P3 C3 U3 X3 T3 A3 f0 f1 f2 fz p0 p1 p2 pz t0 t1 tz
  have t0 := T4.out.at 0 rfl; have t1 := T4.out.at 1 rfl; have tz := T4.out.lt
  go_wp2_with fail
  obtain ⟨w5, hw5⟩ : ∃ w5, w5 = (((w4.alloc (.cells #[.int .u64 0, .int .u64 5, .int .u64 2] 38)).alloc (.cells #[.int .u64 1, .int .u64 0, .int .u64 1] 38)).alloc (.cells #[.int .u64 2, .int .u64 5, .int .u64 0] 38)).alloc (.cells #[.slice (some ⟨w4.heap.size, 0, none⟩) 3 3, .slice (some ⟨w4.heap.size + 1, 0, none⟩) 3 3, .slice (some ⟨w4.heap.size + 1 + 1, 0, none⟩) 3 3] 33) := ⟨_, rfl⟩
  have hx5 : Ext w4 w5 := by rw [hw5]; exact (by (with_reducible (repeat' (first | exact Ext.refl _ | assumption | refine Ext.drew ?_ | refine Ext.drewN ?_ _ | refine Ext.alloc ?_ _ | refine Ext.setCell ?_ ?_ _ | refine Ext.trans ?_ (by assumption)))); all_goals (first | (simp; done) | (simp; omega)))
  have b0 : Blk w5 w4.heap.size 38 #[.int .u64 0, .int .u64 5, .int .u64 2] := by rw [hw5]; exact (Blk.new_ rfl).over.over.over
  have b1 : Blk w5 (w4.heap.size + 1) 38 #[.int .u64 1, .int .u64 0, .int .u64 1] := by rw [hw5]; exact (Blk.new_ (by simp)).over.over
  have b2 : Blk w5 (w4.heap.size + 1 + 1) 38 #[.int .u64 2, .int .u64 5, .int .u64 0] := by rw [hw5]; exact (Blk.new_ (by simp)).over
  have b3 : Blk w5 (w4.heap.size + 1 + 1 + 1) 33 #[.slice (some ⟨w4.heap.size, 0, none⟩) 3 3, .slice (some ⟨w4.heap.size + 1, 0, none⟩) 3 3, .slice (some ⟨w4.heap.size + 1 + 1, 0, none⟩) 3 3] := by rw [hw5]; exact Blk.new_ (by simp)
  have HR5 := hide (rowsu3 rfl rfl rfl b3 (rowu3 b0) (rowu3 b1) (rowu3 b2))
  have U5 := hide (U4.out.ext hx5)
  have X5 := hide (X4.out.trans hx5)
  have A5 := hide (A4.out.ext hx5)
  have B5 := hide (B4.out.ext hx5)
  rw [← hw5]
  clear hw5 hx5 b0 b1 b2 b3 t0 t1 tz T4 U4 X4 A4 B4
  refine (rows13_any ra (some ⟨w4.heap.size + 1 + 1 + 1, 0, none⟩) [[0, 5, 2], [1, 0, 1], [2, 5, 0]] [[0, 5, 2], [1, 0, 1], [2, 5, 0]] rc 3 w5 (by decide) U5.out HR5.out (by (intro r hr; simp only [List.mem_cons, List.not_mem_nil, or_false] at hr; rcases hr with rfl | rfl | rfl <;> decide))).mono ?_
  rintro e w6 ⟨rfl, hx6⟩
  have A6 := hide (A5.out.ext hx6)
  have B6 := hide (B5.out.ext hx6)
  have X6 := hide (X5.out.trans hx6)
  clear hx6 A5 B5 X5 U5 HR5
  simp only [decide_true]
  go_wp2_with fail
  refine (same13_any s1 (some ⟨w6.heap.size, 0, none⟩) [1, 6, 1] [1, 6, 1] s3 3 _ (by decide) (A6.out.ext ((Ext.refl _).alloc _)) (rowu3 (Blk.new_ rfl))).mono ?_
  rintro e w7 ⟨rfl, hx7⟩
  have hx67 : Ext w6 w7 := (by (with_reducible (repeat' (first | exact Ext.refl _ | assumption | refine Ext.drew ?_ | refine Ext.drewN ?_ _ | refine Ext.alloc ?_ _ | refine Ext.setCell ?_ ?_ _ | refine Ext.trans ?_ (by assumption)))); all_goals (first | (simp; done) | (simp; omega)))
  have B7 := hide (B6.out.ext hx67)
  have X7 := hide (X6.out.trans hx67)
  clear hx7 hx67 A6 B6 X6
  simp only [decide_true]
  go_wp2_with fail
  refine (same13_any ba (some ⟨w7.heap.size, 0, none⟩) [1, 2, 1] [1, 2, 1] bc 3 _ (by decide) (B7.out.ext ((Ext.refl _).alloc _)) (rowu3 (Blk.new_ rfl))).mono ?_
  rintro e w8 ⟨rfl, hx8⟩
  have hx78 : Ext w7 w8 := (by (with_reducible (repeat' (first | exact Ext.refl _ | assumption | refine Ext.drew ?_ | refine Ext.drewN ?_ _ | refine Ext.alloc ?_ _ | refine Ext.setCell ?_ ?_ _ | refine Ext.trans ?_ (by assumption)))); all_goals (first | (simp; done) | (simp; omega)))
  have X8 := hide (X7.out.trans hx78)
  clear hx8 hx78 B7 X7
  simp only [decide_true]
  go_wp2_with fail
  go_ret
  exact ⟨rfl, X8.out⟩
end Go.Proofs.Ytifbmapianddcaa
