/- The law InnerSame, as it is said. -/
import Derived.Test.YtifbmapianddcaaInJ
import Derived.Test.YtifbmapianddcaaRefA
import Derived.ProofKit
import Derived.OpenShut
import Derived.ShutString
import Derived.ChangeOld
import Derived.Test.YtifbmapianddcaaField
import Derived.Deep.Slices
import Derived.Test.YtifbmapianddcaaLib
import Derived.Test.YtifbmapianddcaaRowC
import Derived.Test.YtifbmapianddcaaInI
set_option linter.all false
set_option linter.unusedVariables false
set_option linter.unusedSimpArgs false
/- The example of chapter 13. -/
namespace Go.Proofs.Ytifbmapianddcaa
open Go.RowKit

theorem rowsU_of {w : World} {base : Nat} {v : Value} {ll : List (List Int)} (h : RowsAt w base v ll) : ∃ a c, v = .slice a ll.length c ∧ RowsU w a ll := by
  obtain ⟨ss, h1, h2, h3⟩ := h
  obtain ⟨a, c, hv⟩ := h1.slice
  subst hv
  refine ⟨a, c, by rw [h2], fun h0 => ?_⟩
  rcases h1.2 with ⟨_, hz⟩ | ⟨g, cap, cur, hv, _⟩
  · omega
  · injection hv with ha hb hc
    subst ha
    have hrd := Reads.cells h1.reads
    refine ⟨g, 0, rfl, hrd.1, fun k hk => ?_⟩
    have hks : k < ss.length := by omega
    have hown := h3 k ss[k] ll[k] (List.getElem?_eq_getElem hks) (List.getElem?_eq_getElem hk)
    have hcell := hrd.2.2 k ss[k] (List.getElem?_eq_getElem hks) 0 (.slice ss[k].1 ss[k].2.1 ss[k].2.2) rfl
    have hru := Reads.rowU hown.reads
    refine ⟨ss[k].1, ss[k].2.2, ?_, hru.2⟩
    rw [← hru.1]
    simpa [sliceE] using hcell
theorem row8 {w : World} {b : Nat} {a0 a1 a2 a3 a4 a5 a6 a7 : Int} (h : Blk w b 46 #[.int .u16 a0, .int .u16 a1, .int .u16 a2, .int .u16 a3, .int .u16 a4, .int .u16 a5, .int .u16 a6, .int .u16 a7]) : Row16 w (some ⟨b, 0, none⟩) [a0, a1, a2, a3, a4, a5, a6, a7] := fun _ => by
  refine ⟨b, 0, rfl, h.lt, fun k hk => ?_⟩
  have hk6 : k < 8 := hk
  obtain rfl | rfl | rfl | rfl | rfl | rfl | rfl | rfl : k = 0 ∨ k = 1 ∨ k = 2 ∨ k = 3 ∨ k = 4 ∨ k = 5 ∨ k = 6 ∨ k = 7 := by omega
  · exact h.at 0 rfl
  · exact h.at 1 rfl
  · exact h.at 2 rfl
  · exact h.at 3 rfl
  · exact h.at 4 rfl
  · exact h.at 5 rfl
  · exact h.at 6 rfl
  · exact h.at 7 rfl
theorem rowc3 {w : World} {b : Nat} {a0 a1 a2 b0 b1 b2 : Int} (h : Blk w b 28 #[.int .i64 a0, .int .i64 b0, .int .i64 a1, .int .i64 b1, .int .i64 a2, .int .i64 b2]) : RowC w (some ⟨b, 0, none⟩) [(a0, b0), (a1, b1), (a2, b2)] := fun _ => by
  refine ⟨b, 0, rfl, h.lt, fun k hk => ?_⟩
  have hk6 : k < 3 := hk
  obtain rfl | rfl | rfl : k = 0 ∨ k = 1 ∨ k = 2 := by omega
  · exact ⟨h.at 0 rfl, h.at 1 rfl⟩
  · exact ⟨h.at 2 rfl, h.at 3 rfl⟩
  · exact ⟨h.at 4 rfl, h.at 5 rfl⟩
theorem rowu3 {w : World} {b : Nat} {a0 a1 a2 : Int} (h : Blk w b 38 #[.int .u64 a0, .int .u64 a1, .int .u64 a2]) : RowU w (some ⟨b, 0, none⟩) [a0, a1, a2] := fun _ => by
  refine ⟨b, 0, rfl, h.lt, fun k hk => ?_⟩
  have hk6 : k < 3 := hk
  obtain rfl | rfl | rfl : k = 0 ∨ k = 1 ∨ k = 2 := by omega
  · exact h.at 0 rfl
  · exact h.at 1 rfl
  · exact h.at 2 rfl
theorem rowsu3 {w : World} {b b0 b1 b2 : Nat} {x y z : List Int} (hx : x.length = 3) (hy : y.length = 3) (hz : z.length = 3) (h : Blk w b 33 #[.slice (some ⟨b0, 0, none⟩) 3 3, .slice (some ⟨b1, 0, none⟩) 3 3, .slice (some ⟨b2, 0, none⟩) 3 3]) (h0 : RowU w (some ⟨b0, 0, none⟩) x) (h1 : RowU w (some ⟨b1, 0, none⟩) y) (h2 : RowU w (some ⟨b2, 0, none⟩) z) : RowsU w (some ⟨b, 0, none⟩) [x, y, z] := fun _ => by
  refine ⟨b, 0, rfl, h.lt, fun k hk => ?_⟩
  have hk6 : k < 3 := hk
  obtain rfl | rfl | rfl : k = 0 ∨ k = 1 ∨ k = 2 := by omega
  · exact ⟨_, 3, by simp only [List.getElem_cons_zero, hx]; exact h.at 0 rfl, h0⟩
  · exact ⟨_, 3, by simp only [List.getElem_cons_succ, List.getElem_cons_zero, hy]; exact h.at 1 rfl, h1⟩
  · exact ⟨_, 3, by simp only [List.getElem_cons_succ, List.getElem_cons_zero, hz]; exact h.at 2 rfl, h2⟩
theorem awC_in : ∀ p ∈ awC, InI p.1 ∧ InI p.2 := by
  intro p hp
  simp only [awC, List.mem_cons, List.not_mem_nil, or_false] at hp
  rcases hp with rfl | rfl | rfl <;> (unfold InI; decide)

set_option maxRecDepth 100000 in
set_option maxHeartbeats 1000000 in
theorem awake13_any (w : World) : Calls Try.prog 24 #[] w fun e w' => e = .returned (.bool true) ∧ Ext w w' := by
  have HO := hide (fun (w' : World) (rb cb : Nat) (h1 : Row16 w' (some ⟨rb, 0, none⟩) awI) (h2 : RowC w' (some ⟨cb, 0, none⟩) awC) => iOf_ok (w := w') (W := 4) (H := 2) (l := awI) 8 (PW := 4) (PH := 2) (s := 2) (id := 0) (cs := awC) 3 h1 awI_u16 h2 (by decide) awC_in aw_inner awI_box)
  have HT := hide (fun (w' : World) (rb : Nat) (ca ra : Option Addr) (cc rc : Nat) (h1 : Row16 w' (some ⟨rb, 0, none⟩) awI) (h2 : RowC w' ca awC) => iTo_ok (w := w') (W := 4) (H := 2) (l := awI) 8 (PW := 4) (PH := 2) (s := 2) (id := 0) (cs := awC) cc ra 3 rc (p := (0, 1)) h1 h2 (by decide) awC_in aw_toE awI_box)
  have HB := hide (fun (w' : World) (rb : Nat) (ca ra : Option Addr) (cc rc : Nat) (h1 : Row16 w' (some ⟨rb, 0, none⟩) awI) (h2 : RowC w' ca awC) => iBack_ok (w := w') (W := 4) (H := 2) (l := awI) 8 (PW := 4) (PH := 2) (s := 2) (id := 0) (cs := awC) cc ra 3 rc (p := (0, 1)) h1 h2 (by decide) awC_in aw_toE awI_box)
  rw [aw_rows] at HO
  rw [aw_to] at HT
  rw [aw_back] at HB
  go_enter Try.func24, Try.ntmps24
  go_wp2_with fail
  obtain ⟨w0, hw0⟩ : ∃ w0, w0 = (((w.alloc (.cells #[.int .u16 1, .int .u16 5, .int .u16 1, .int .u16 1, .int .u16 1, .int .u16 1, .int .u16 1, .int .u16 1] 46)).alloc (.cells #[.int .i64 4, .int .i64 2, .slice (some ⟨w.heap.size, 0, none⟩) 8 8] 26)).alloc (.cells #[.int .i64 4, .int .i64 2, .int .i64 2] 51)).alloc (.cells #[.int .i64 0, .int .i64 0, .int .i64 1, .int .i64 0, .int .i64 1, .int .i64 1] 28) := ⟨_, rfl⟩
  have hx0 : Ext w w0 := by rw [hw0]; exact (by (with_reducible (repeat' (first | exact Ext.refl _ | assumption | refine Ext.drew ?_ | refine Ext.drewN ?_ _ | refine Ext.alloc ?_ _ | refine Ext.setCell ?_ ?_ _ | refine Ext.trans ?_ (by assumption)))); all_goals (first | (simp; done) | (simp; omega)))
  have R0 := hide (show Blk w0 w.heap.size 46 #[.int .u16 1, .int .u16 5, .int .u16 1, .int .u16 1, .int .u16 1, .int .u16 1, .int .u16 1, .int .u16 1] by rw [hw0]; exact (Blk.new_ rfl).over.over.over)
  have F0 := hide (show Blk w0 (w.heap.size + 1) 26 #[.int .i64 4, .int .i64 2, .slice (some ⟨w.heap.size, 0, none⟩) 8 8] by rw [hw0]; exact (Blk.new_ (by simp)).over.over)
  have P0 := hide (show Blk w0 (w.heap.size + 2) 51 #[.int .i64 4, .int .i64 2, .int .i64 2] by rw [hw0]; exact (Blk.new_ (by simp)).over)
  have C0 := hide (show Blk w0 (w.heap.size + 3) 28 #[.int .i64 0, .int .i64 0, .int .i64 1, .int .i64 0, .int .i64 1, .int .i64 1] by rw [hw0]; exact Blk.new_ (by simp))
  rw [← hw0]
  clear hw0
  refine (HO.out w0 _ (w.heap.size + 3) (row8 R0.out) (rowc3 C0.out)).mono ?_
  rintro e w1 ⟨v1, v2, rfl, hx1, ho1, hr1⟩
  obtain ⟨ca, cc, hv1⟩ : ∃ a c, v1 = .slice a 3 c := ho1.slice
  subst hv1
  obtain ⟨ra, rc, hv2, hru⟩ := rowsU_of hr1
  subst hv2
  have R1 := hide (Blk.ext R0.out hx1)
  have F1 := hide (Blk.ext F0.out hx1)
  have P1 := hide (Blk.ext P0.out hx1)
  have C1 := hide ho1.reads.rowC.2
  have U1 := hide hru
  have X1 := hide (hx0.trans hx1)
  have f0 := F1.out.at 0 rfl; have f1 := F1.out.at 1 rfl; have f2 := F1.out.at 2 rfl; have fz := F1.out.lt
  have p0 := P1.out.at 0 rfl; have p1 := P1.out.at 1 rfl; have p2 := P1.out.at 2 rfl; have pz := P1.out.lt
  clear hx0 hx1 ho1 hr1 hru R0 F0 P0 C0
  simp only [List.length_cons, List.length_nil, Nat.zero_add, Nat.reduceAdd]
  go_wp2_with fail
  obtain ⟨w2, hw2⟩ : ∃ w2, w2 = w1.alloc (.cells #[.slice ca 3 cc, .slice ra 3 rc] 57) := ⟨_, rfl⟩
  have hx2 : Ext w1 w2 := by rw [hw2]; exact (Ext.refl _).alloc _
  have T2 := hide (show Blk w2 w1.heap.size 57 #[.slice ca 3 cc, .slice ra 3 rc] by rw [hw2]; exact Blk.new_ rfl)
  have R2 := hide (Blk.ext R1.out hx2)
  have F2 := hide (Blk.ext F1.out hx2)
  have P2 := hide (Blk.ext P1.out hx2)
  have C2 := hide (C1.out.ext hx2)
  have U2 := hide (U1.out.ext hx2)
  have X2 := hide (X1.out.trans hx2)
  rw [← hw2]
  obtain ⟨tb, htb⟩ : ∃ z, w1.heap.size = z := ⟨_, rfl⟩
  rw [htb] at T2 ⊢
  clear hw2 hx2 htb f0 f1 f2 fz p0 p1 p2 pz R1 F1 P1 C1 U1 X1
  refine (HT.out w2 _ ca ra cc rc (row8 R2.out) C2.out).mono ?_
  rintro e w3 ⟨sv, rfl, hx3, ho3⟩
  have R3 := hide (Blk.ext R2.out hx3)
  have F3 := hide (Blk.ext F2.out hx3)
  have P3 := hide (Blk.ext P2.out hx3)
  have T3 := hide (Blk.ext T2.out hx3)
  have C3 := hide (C2.out.ext hx3)
  have U3 := hide (U2.out.ext hx3)
  have X3 := hide (X2.out.trans hx3)
  obtain ⟨s1, s2, s3⟩ := sv
  simp only at ho3 ⊢
  have A3 := hide ho3.reads.rowU
  have f0 := F3.out.at 0 rfl; have f1 := F3.out.at 1 rfl; have f2 := F3.out.at 2 rfl; have fz := F3.out.lt
  have p0 := P3.out.at 0 rfl; have p1 := P3.out.at 1 rfl; have p2 := P3.out.at 2 rfl; have pz := P3.out.lt
  have t0 := T3.out.at 0 rfl; have t1 := T3.out.at 1 rfl; have tz := T3.out.lt
  clear hx3 ho3 R2 F2 P2 C2 U2 X2 T2
  go_wp2_with fail
  refine (HB.out w3 _ ca ra cc rc (row8 R3.out) C3.out).mono ?_
  rintro e w4 ⟨v4, rfl, hx4, ho4⟩
  obtain ⟨ba, bc, hv4⟩ : ∃ a c, v4 = .slice a 3 c := ho4.slice
  subst hv4
  have T4 := hide (Blk.ext T3.out hx4)
  have U4 := hide (U3.out.ext hx4)
  have X4 := hide (X3.out.trans hx4)
  have A4 := hide (A3.out.2.ext hx4)
  have hs2 : s2 = 3 := A3.out.1
  subst hs2
  have B4 := hide ho4.reads.rowU.2
  clear hx4 ho4 R3 F3 P3 C3 U3 X3 T3 A3 f0 f1 f2 fz p0 p1 p2 pz t0 t1 tz
  have t0 := T4.out.at 0 rfl; have t1 := T4.out.at 1 rfl; have tz := T4.out.lt
  go_wp2_with fail
  obtain ⟨w5, hw5⟩ : ∃ w5, w5 = (((w4.alloc (.cells #[.int .u64 0, .int .u64 5, .int .u64 2] 38)).alloc (.cells #[.int .u64 1, .int .u64 0, .int .u64 1] 38)).alloc (.cells #[.int .u64 2, .int .u64 5, .int .u64 0] 38)).alloc (.cells #[.slice (some ⟨w4.heap.size, 0, none⟩) 3 3, .slice (some ⟨w4.heap.size + 1, 0, none⟩) 3 3, .slice (some ⟨w4.heap.size + 1 + 1, 0, none⟩) 3 3] 33) := ⟨_, rfl⟩
  have hx5 : Ext w4 w5 := by rw [hw5]; exact (by (with_reducible (repeat' (first | exact Ext.refl _ | assumption | refine Ext.drew ?_ | refine Ext.drewN ?_ _ | refine Ext.alloc ?_ _ | refine Ext.setCell ?_ ?_ _ | refine Ext.trans ?_ (by assumption)))); all_goals (first | (simp; done) | (simp; omega)))
  have b0 : Blk w5 w4.heap.size 38 #[.int .u64 0, .int .u64 5, .int .u64 2] := by rw [hw5]; exact (Blk.new_ rfl).over.over.over
  have b1 : Blk w5 (w4.heap.size + 1) 38 #[.int .u64 1, .int .u64 0, .int .u64 1] := by rw [hw5]; exact (Blk.new_ (by simp)).over.over
  have b2 : Blk w5 (w4.heap.size + 1 + 1) 38 #[.int .u64 2, .int .u64 5, .int .u64 0] := by rw [hw5]; exact (Blk.new_ (by simp)).over
  have b3 : Blk w5 (w4.heap.size + 1 + 1 + 1) 33 #[.slice (some ⟨w4.heap.size, 0, none⟩) 3 3, .slice (some ⟨w4.heap.size + 1, 0, none⟩) 3 3, .slice (some ⟨w4.heap.size + 1 + 1, 0, none⟩) 3 3] := by rw [hw5]; exact Blk.new_ (by simp)
  have HR5 := hide (rowsu3 rfl rfl rfl b3 (rowu3 b0) (rowu3 b1) (rowu3 b2))
  have U5 := hide (U4.out.ext hx5)
  have X5 := hide (X4.out.trans hx5)
  have A5 := hide (A4.out.ext hx5)
  have B5 := hide (B4.out.ext hx5)
  rw [← hw5]
  clear hw5 hx5 b0 b1 b2 b3 t0 t1 tz T4 U4 X4 A4 B4
  refine (rows13_any ra (some ⟨w4.heap.size + 1 + 1 + 1, 0, none⟩) [[0, 5, 2], [1, 0, 1], [2, 5, 0]] [[0, 5, 2], [1, 0, 1], [2, 5, 0]] rc 3 w5 (by decide) U5.out HR5.out (by (intro r hr; simp only [List.mem_cons, List.not_mem_nil, or_false] at hr; rcases hr with rfl | rfl | rfl <;> decide))).mono ?_
  rintro e w6 ⟨rfl, hx6⟩
  have A6 := hide (A5.out.ext hx6)
  have B6 := hide (B5.out.ext hx6)
  have X6 := hide (X5.out.trans hx6)
  clear hx6 A5 B5 X5 U5 HR5
  simp only [decide_true]
  go_wp2_with fail
  refine (same13_any s1 (some ⟨w6.heap.size, 0, none⟩) [1, 6, 1] [1, 6, 1] s3 3 _ (by decide) (A6.out.ext ((Ext.refl _).alloc _)) (rowu3 (Blk.new_ rfl))).mono ?_
  rintro e w7 ⟨rfl, hx7⟩
  have hx67 : Ext w6 w7 := (by (with_reducible (repeat' (first | exact Ext.refl _ | assumption | refine Ext.drew ?_ | refine Ext.drewN ?_ _ | refine Ext.alloc ?_ _ | refine Ext.setCell ?_ ?_ _ | refine Ext.trans ?_ (by assumption)))); all_goals (first | (simp; done) | (simp; omega)))
  have B7 := hide (B6.out.ext hx67)
  have X7 := hide (X6.out.trans hx67)
  clear hx7 hx67 A6 B6 X6
  simp only [decide_true]
  go_wp2_with fail
  refine (same13_any ba (some ⟨w7.heap.size, 0, none⟩) [1, 2, 1] [1, 2, 1] bc 3 _ (by decide) (B7.out.ext ((Ext.refl _).alloc _)) (rowu3 (Blk.new_ rfl))).mono ?_
  rintro e w8 ⟨rfl, hx8⟩
  have hx78 : Ext w7 w8 := (by (with_reducible (repeat' (first | exact Ext.refl _ | assumption | refine Ext.drew ?_ | refine Ext.drewN ?_ _ | refine Ext.alloc ?_ _ | refine Ext.setCell ?_ ?_ _ | refine Ext.trans ?_ (by assumption)))); all_goals (first | (simp; done) | (simp; omega)))
  have X8 := hide (X7.out.trans hx78)
  clear hx8 hx78 B7 X7
  simp only [decide_true]
  go_wp2_with fail
  go_ret
  exact ⟨rfl, X8.out⟩
end Go.Proofs.Ytifbmapianddcaa

/- The walk of InnerSame. -/
namespace Go.Proofs.Ytifbmapianddcaa
open Go.RowKit

set_option maxRecDepth 100000 in
theorem is_1 {w : World} (a b ra rb : Option Addr) (n1 n2 n3 n4 c d rc rd : Nat) (h1 : 20 < n1) :
    Calls Try.prog 8 #[.agg #[.slice a n1 c, .slice ra n3 rc], .agg #[.slice b n2 d, .slice rb n4 rd]] w fun e w' => e = .returned (.bool true) ∧ Ext w w' := by
  have d1 : decide ((20 : Int) < (n1 : Int)) = true := by simp; omega
  have e1 : decide (20 < n1) = true := by simp; omega
  clear h1
  go_enter Try.func8, Try.ntmps8
  go_wp2_with (go_at_call 24; refine (awake13_any _).mono ?_; rintro e w6 ⟨rfl, hb6⟩)
  go_ret
  exact ⟨rfl, (by (with_reducible (repeat' (first | exact Ext.refl _ | assumption | refine Ext.drew ?_ | refine Ext.drewN ?_ _ | refine Ext.alloc ?_ _ | refine Ext.setCell ?_ ?_ _ | refine Ext.trans ?_ (by assumption)))); all_goals (first | (simp; done) | (simp; omega)))⟩

set_option maxRecDepth 100000 in
theorem is_2 {w : World} (a b ra rb : Option Addr) (n1 n2 n3 n4 c d rc rd : Nat) (h1 : ¬ 20 < n1) (h2 : 20 < n2) :
    Calls Try.prog 8 #[.agg #[.slice a n1 c, .slice ra n3 rc], .agg #[.slice b n2 d, .slice rb n4 rd]] w fun e w' => e = .returned (.bool true) ∧ Ext w w' := by
  have d1 : decide ((20 : Int) < (n1 : Int)) = false := by simp; omega
  have e1 : decide (20 < n1) = false := by simp; omega
  have d2 : decide ((20 : Int) < (n2 : Int)) = true := by simp; omega
  have e2 : decide (20 < n2) = true := by simp; omega
  clear h1 h2
  go_enter Try.func8, Try.ntmps8
  go_wp2_with (go_at_call 24; refine (awake13_any _).mono ?_; rintro e w6 ⟨rfl, hb6⟩)
  go_ret
  exact ⟨rfl, (by (with_reducible (repeat' (first | exact Ext.refl _ | assumption | refine Ext.drew ?_ | refine Ext.drewN ?_ _ | refine Ext.alloc ?_ _ | refine Ext.setCell ?_ ?_ _ | refine Ext.trans ?_ (by assumption)))); all_goals (first | (simp; done) | (simp; omega)))⟩

set_option maxRecDepth 100000 in
theorem is_3 {w : World} (a b ra rb : Option Addr) (n1 n2 n3 n4 c d rc rd : Nat) (h1 : ¬ 20 < n1) (h2 : ¬ 20 < n2) (h3 : 20 < n3) :
    Calls Try.prog 8 #[.agg #[.slice a n1 c, .slice ra n3 rc], .agg #[.slice b n2 d, .slice rb n4 rd]] w fun e w' => e = .returned (.bool true) ∧ Ext w w' := by
  have d1 : decide ((20 : Int) < (n1 : Int)) = false := by simp; omega
  have e1 : decide (20 < n1) = false := by simp; omega
  have d2 : decide ((20 : Int) < (n2 : Int)) = false := by simp; omega
  have e2 : decide (20 < n2) = false := by simp; omega
  have d3 : decide ((20 : Int) < (n3 : Int)) = true := by simp; omega
  have e3 : decide (20 < n3) = true := by simp; omega
  clear h1 h2 h3
  go_enter Try.func8, Try.ntmps8
  go_wp2_with (go_at_call 24; refine (awake13_any _).mono ?_; rintro e w6 ⟨rfl, hb6⟩)
  go_ret
  exact ⟨rfl, (by (with_reducible (repeat' (first | exact Ext.refl _ | assumption | refine Ext.drew ?_ | refine Ext.drewN ?_ _ | refine Ext.alloc ?_ _ | refine Ext.setCell ?_ ?_ _ | refine Ext.trans ?_ (by assumption)))); all_goals (first | (simp; done) | (simp; omega)))⟩

set_option maxRecDepth 100000 in
theorem is_4 {w : World} (a b ra rb : Option Addr) (n1 n2 n3 n4 c d rc rd : Nat) (h1 : ¬ 20 < n1) (h2 : ¬ 20 < n2) (h3 : ¬ 20 < n3) (h4 : 20 < n4) :
    Calls Try.prog 8 #[.agg #[.slice a n1 c, .slice ra n3 rc], .agg #[.slice b n2 d, .slice rb n4 rd]] w fun e w' => e = .returned (.bool true) ∧ Ext w w' := by
  have d1 : decide ((20 : Int) < (n1 : Int)) = false := by simp; omega
  have e1 : decide (20 < n1) = false := by simp; omega
  have d2 : decide ((20 : Int) < (n2 : Int)) = false := by simp; omega
  have e2 : decide (20 < n2) = false := by simp; omega
  have d3 : decide ((20 : Int) < (n3 : Int)) = false := by simp; omega
  have e3 : decide (20 < n3) = false := by simp; omega
  have d4 : decide ((20 : Int) < (n4 : Int)) = true := by simp; omega
  have e4 : decide (20 < n4) = true := by simp; omega
  clear h1 h2 h3 h4
  go_enter Try.func8, Try.ntmps8
  go_wp2_with (go_at_call 24; refine (awake13_any _).mono ?_; rintro e w6 ⟨rfl, hb6⟩)
  go_ret
  exact ⟨rfl, (by (with_reducible (repeat' (first | exact Ext.refl _ | assumption | refine Ext.drew ?_ | refine Ext.drewN ?_ _ | refine Ext.alloc ?_ _ | refine Ext.setCell ?_ ?_ _ | refine Ext.trans ?_ (by assumption)))); all_goals (first | (simp; done) | (simp; omega)))⟩

set_option maxRecDepth 100000 in
set_option maxHeartbeats 1000000 in
theorem is_near {w : World} {a b ra rb : Option Addr} {l m : List Cell} {ll mm : List (List Int)} (c d rc rd : Nat) (ha : RowC w a l) (hb : RowC w b m) (hra : RowsU w ra ll) (hrb : RowsU w rb mm) (h1 : ¬ 20 < l.length) (h2 : ¬ 20 < m.length) (h3 : ¬ 20 < ll.length) (h4 : ¬ 20 < mm.length) :
    Calls Try.prog 8 #[.agg #[.slice a l.length c, .slice ra ll.length rc], .agg #[.slice b m.length d, .slice rb mm.length rd]] w fun e w' => e = .returned (.bool true) ∧ Ext w w' := by
  have HS1 := hide (fun (hs : ∀ r, r ∈ ll → r.length ≤ 1000000) (w' : World) (hx : Ext w w') => iSame_any a b ra rb l m ll mm c d rc rd w' (by omega) (ha.ext hx) (hb.ext hx) (by omega) (hra.ext hx) (hrb.ext hx) hs)
  have HS2 := hide (fun (hs : ∀ r, r ∈ ll → r.length ≤ 1000000) (w' : World) (hx : Ext w w') => iSame_any a a ra ra l l ll ll c c rc rc w' (by omega) (ha.ext hx) (ha.ext hx) (by omega) (hra.ext hx) (hra.ext hx) hs)
  have HC := hide (fun (w' : World) (hx : Ext w w') => cells13_any a b l m c d w' (by omega) (ha.ext hx) (hb.ext hx))
  have HR := hide (fun (hs : ∀ r, r ∈ ll → r.length ≤ 1000000) (w' : World) (hx : Ext w w') => rows13_any ra rb ll mm rc rd w' (by omega) (hra.ext hx) (hrb.ext hx) hs)
  have RA := hide hra
  obtain ⟨n1, g1⟩ : ∃ z, l.length = z := ⟨_, rfl⟩
  obtain ⟨n2, g2⟩ : ∃ z, m.length = z := ⟨_, rfl⟩
  obtain ⟨n3, g3⟩ : ∃ z, ll.length = z := ⟨_, rfl⟩
  obtain ⟨n4, g4⟩ : ∃ z, mm.length = z := ⟨_, rfl⟩
  have G3 := hide g3
  rw [g1, g2, g3, g4] at HS1
  rw [g1, g3] at HS2
  rw [g1, g2] at HC
  rw [g3, g4] at HR
  rw [g1] at h1 ⊢
  rw [g2] at h2 ⊢
  rw [g3] at h3 ⊢
  rw [g4] at h4 ⊢
  have d1 : decide ((20 : Int) < (n1 : Int)) = false := by simp; omega
  have e1 : decide (20 < n1) = false := by simp; omega
  have d2 : decide ((20 : Int) < (n2 : Int)) = false := by simp; omega
  have e2 : decide (20 < n2) = false := by simp; omega
  have d3 : decide ((20 : Int) < (n3 : Int)) = false := by simp; omega
  have e3 : decide (20 < n3) = false := by simp; omega
  have d4 : decide ((20 : Int) < (n4 : Int)) = false := by simp; omega
  have e4 : decide (20 < n4) = false := by simp; omega
  clear ha hb hra hrb g1 g2 g3 g4
  go_enter Try.func8, Try.ntmps8
  go_wp2_with fail
  obtain ⟨w1, hw1⟩ : ∃ w1, w1 = (w.alloc (.cells #[.slice a n1 c, .slice ra n3 rc] 57)).alloc (.cells #[.slice b n2 d, .slice rb n4 rd] 57) := ⟨_, rfl⟩
  have hx1 : Ext w w1 := by rw [hw1]; exact (by (with_reducible (repeat' (first | exact Ext.refl _ | assumption | refine Ext.drew ?_ | refine Ext.drewN ?_ _ | refine Ext.alloc ?_ _ | refine Ext.setCell ?_ ?_ _ | refine Ext.trans ?_ (by assumption)))); all_goals (first | (simp; done) | (simp; omega)))
  have B1 := hide (show Blk w1 w.heap.size 57 #[.slice a n1 c, .slice ra n3 rc] by rw [hw1]; exact (Blk.new_ rfl).over)
  have B2 := hide (show Blk w1 (w.heap.size + 1) 57 #[.slice b n2 d, .slice rb n4 rd] by rw [hw1]; exact Blk.new_ (by simp))
  have HX1 := hide hx1
  rw [← hw1]
  clear hw1 hx1 d1 e1 d2 e2 d3 e3 d4 e4
  go_loopw [5] (fun iv wr => ∃ k : Nat, k ≤ n3 ∧ iv = .int .i64 k ∧ (∀ j (h : j < ll.length), j < k → ll[j].length ≤ 20) ∧ Ext w1 wr) (fun iv _ => n3 - (intOf iv).toNat)
  case atStart => exact ⟨0, Nat.zero_le _, rfl, fun j _ h => absurd h (Nat.not_lt_zero j), Ext.refl _⟩
  case round =>
    obtain ⟨k, hk, rfl, hall, hx⟩ := hrel
    have HA := hide hall
    have HX := hide hx
    have C1 := hide (Blk.ext B1.out hx)
    have C2 := hide (Blk.ext B2.out hx)
    have hxw := HX1.out.trans hx
    clear hall hx
    have p0 := C1.out.at 0 rfl; have p1 := C1.out.at 1 rfl; have pz := C1.out.lt
    have q0 := C2.out.at 0 rfl; have q1 := C2.out.at 1 rfl; have qz := C2.out.lt
    by_cases hlt : k < n3
    · have hkl : k < ll.length := by rw [G3.out]; exact hlt
      obtain ⟨bb, ob, rfl, zb, cb⟩ := RA.out (by omega)
      obtain ⟨sa, sc, c0, c9⟩ := cb k hkl
      have d0 := (hxw.cell (p := ⟨bb, ob + k, none⟩) zb).trans c0
      have z0 : bb < wr.heap.size := Nat.lt_of_lt_of_le zb hxw.size
      obtain ⟨rl, hrl⟩ : ∃ z, ll[k].length = z := ⟨_, rfl⟩
      rw [hrl] at d0
      have HRL := hide (fun (h : rl ≤ 20) j (hj : j < ll.length) (hjk : j < k + 1) => (by
        by_cases e : j = k
        · subst e; omega
        · exact HA.out j hj (by omega) : ll[j].length ≤ 20))
      have jk : (k : Int) < (n3 : Int) := by omega
      clear c9
      clear cb c0 hrl zb
      clear hkl
      by_cases h20 : 20 < rl
      · have d1 : decide ((20 : Int) < (rl : Int)) = true := by simp; omega
        have e1 : decide (20 < rl) = true := by simp; omega
        clear h20
        go_wp2_with (go_at_call 24; refine (awake13_any _).mono ?_; rintro e w6 ⟨rfl, hb6⟩)
        go_ret
        exact ⟨rfl, (by (with_reducible (repeat' (first | exact Ext.refl _ | assumption | refine Ext.drew ?_ | refine Ext.drewN ?_ _ | refine Ext.alloc ?_ _ | refine Ext.setCell ?_ ?_ _ | refine Ext.trans ?_ (by assumption)))); all_goals (first | (simp; done) | (simp; omega)))⟩
      · have d1 : decide ((20 : Int) < (rl : Int)) = false := by simp; omega
        have e1 : decide (20 < rl) = false := by simp; omega
        have HN := hide (HRL.out (by omega))
        clear h20 HRL
        go_wp2_with fail
        go_roundw
        case rel => exact ⟨k + 1, hlt, by go_num, HN.out, HX.out⟩
        case measure => simp [intOf]; omega
    · obtain rfl : n3 = k := by omega
      have hsm : ∀ r, r ∈ ll → r.length ≤ 1000000 := fun r hr => by
        obtain ⟨j, hj, rfl⟩ := List.getElem_of_mem hr
        have := HA.out j hj (by rw [← G3.out]; exact hj)
        omega
      have I1 := hide (fun w' (hx : Ext wr w') => HS1.out hsm w' (hxw.trans hx))
      have I2 := hide (fun w' (hx : Ext wr w') => HS2.out hsm w' (hxw.trans hx))
      have IC := hide (fun w' (hx : Ext wr w') => HC.out w' (hxw.trans hx))
      have IR := hide (fun w' (hx : Ext wr w') => HR.out hsm w' (hxw.trans hx))
      simp only [decide_true, Bool.and_self] at I2
      clear hsm HS1 HS2 HC HR
      generalize decide (l = m) = x at *
      generalize decide (ll = mm) = y at *
      cases x
      · simp only [Bool.false_and] at I1
        go_wp2_with fail
        refine seqH_start (S := (fun W => (∀ b o, b < wr.heap.size → W.cell? ⟨b, o, none⟩ = wr.cell? ⟨b, o, none⟩) ∧ Ext wr W)) [(0, true), (1, true), (3, true), (4, true), (5, true), (6, true), (2, false), (7, false), (8, true), (9, true), (10, true), (11, true), (12, true), (13, true), (14, true), (15, true), (16, true), (17, true), (18, true), (19, false), (20, true), (21, true), (22, false), (23, true), (24, true)] (by kernel_rfl) (by kernel_rfl) (by kernel_rfl) (by decide) (fun _ _ d _ _ h => by cases d <;> exact h) (by first | with_reducible exact pr_start _ | exact pr_of (by (with_reducible (repeat' (first | exact Ext.refl _ | assumption | refine Ext.drew ?_ | refine Ext.drewN ?_ _ | refine Ext.alloc ?_ _ | refine Ext.setCell ?_ ?_ _ | refine Ext.trans ?_ (by assumption)))); all_goals (first | (simp; done) | (simp; omega)))) (fun hHeld => ?_)
        iterate 6 (apply SeqH.free; (· (simp only [List.getElem?_toArray, List.getElem?_cons_succ, List.getElem?_cons_zero]; rfl)); (· first | exact Or.inr ⟨by rfl, rfl⟩ | (refine Or.inl ⟨by rfl, ?_⟩; intro w hSw; (try dsimp only at hSw); go_simp; try with_reducible rfl)); try simp only [Act.put, List.setIfInBounds_toArray, List.set_cons_zero, List.set_cons_succ])
        (apply SeqH.step; (· (simp only [List.getElem?_toArray, List.getElem?_cons_succ, List.getElem?_cons_zero]; rfl)); intro K hK; go_simp; refine (I1.out _ (by (with_reducible (repeat' (first | exact Ext.refl _ | assumption | refine Ext.drew ?_ | refine Ext.drewN ?_ _ | refine Ext.alloc ?_ _ | refine Ext.setCell ?_ ?_ _ | refine Ext.trans ?_ (by assumption)))); all_goals (first | (simp; done) | (simp; omega)))).mono ?_; rintro e w6 ⟨rfl, hb6⟩; go_wp2_with fail; refine hK.out _ _ (pr_of (by (with_reducible (repeat' (first | exact Ext.refl _ | assumption | refine Ext.drew ?_ | refine Ext.drewN ?_ _ | refine Ext.alloc ?_ _ | refine Ext.setCell ?_ ?_ _ | refine Ext.trans ?_ (by assumption)))); all_goals (first | (simp; done) | (simp; omega)))) (fun hHeld => ?_); clear hK K; try simp only [Act.put, List.setIfInBounds_toArray, List.set_cons_zero, List.set_cons_succ])
        (apply SeqH.step; (· (simp only [List.getElem?_toArray, List.getElem?_cons_succ, List.getElem?_cons_zero]; rfl)); intro K hK; go_simp; refine (IC.out _ (by (with_reducible (repeat' (first | exact Ext.refl _ | assumption | refine Ext.drew ?_ | refine Ext.drewN ?_ _ | refine Ext.alloc ?_ _ | refine Ext.setCell ?_ ?_ _ | refine Ext.trans ?_ (by assumption)))); all_goals (first | (simp; done) | (simp; omega)))).mono ?_; rintro e w7 ⟨rfl, hb7⟩; go_wp2_with fail; refine hK.out _ _ (pr_of (by (with_reducible (repeat' (first | exact Ext.refl _ | assumption | refine Ext.drew ?_ | refine Ext.drewN ?_ _ | refine Ext.alloc ?_ _ | refine Ext.setCell ?_ ?_ _ | refine Ext.trans ?_ (by assumption)))); all_goals (first | (simp; done) | (simp; omega)))) (fun hHeld => ?_); clear hK K; try simp only [Act.put, List.setIfInBounds_toArray, List.set_cons_zero, List.set_cons_succ])
        iterate 11 (apply SeqH.free; (· (simp only [List.getElem?_toArray, List.getElem?_cons_succ, List.getElem?_cons_zero]; rfl)); (· first | exact Or.inr ⟨by rfl, rfl⟩ | (refine Or.inl ⟨by rfl, ?_⟩; intro w hSw; (try dsimp only at hSw); go_simp; try with_reducible rfl)); try simp only [Act.put, List.setIfInBounds_toArray, List.set_cons_zero, List.set_cons_succ])
        (apply SeqH.step; (· (simp only [List.getElem?_toArray, List.getElem?_cons_succ, List.getElem?_cons_zero]; rfl)); intro K hK; go_simp; refine (I2.out _ (by (with_reducible (repeat' (first | exact Ext.refl _ | assumption | refine Ext.drew ?_ | refine Ext.drewN ?_ _ | refine Ext.alloc ?_ _ | refine Ext.setCell ?_ ?_ _ | refine Ext.trans ?_ (by assumption)))); all_goals (first | (simp; done) | (simp; omega)))).mono ?_; rintro e w8 ⟨rfl, hb8⟩; go_wp2_with fail; refine hK.out _ _ (pr_of (by (with_reducible (repeat' (first | exact Ext.refl _ | assumption | refine Ext.drew ?_ | refine Ext.drewN ?_ _ | refine Ext.alloc ?_ _ | refine Ext.setCell ?_ ?_ _ | refine Ext.trans ?_ (by assumption)))); all_goals (first | (simp; done) | (simp; omega)))) (fun hHeld => ?_); clear hK K; try simp only [Act.put, List.setIfInBounds_toArray, List.set_cons_zero, List.set_cons_succ])
        iterate 2 (apply SeqH.free; (· (simp only [List.getElem?_toArray, List.getElem?_cons_succ, List.getElem?_cons_zero]; rfl)); (· first | exact Or.inr ⟨by rfl, rfl⟩ | (refine Or.inl ⟨by rfl, ?_⟩; intro w hSw; (try dsimp only at hSw); go_simp; try with_reducible rfl)); try simp only [Act.put, List.setIfInBounds_toArray, List.set_cons_zero, List.set_cons_succ])
        (apply SeqH.step; (· (simp only [List.getElem?_toArray, List.getElem?_cons_succ, List.getElem?_cons_zero]; rfl)); intro K hK; go_simp; refine (awake13_any _).mono ?_; rintro e w9 ⟨rfl, hb9⟩; go_wp2_with fail; refine hK.out _ _ (pr_of (by (with_reducible (repeat' (first | exact Ext.refl _ | assumption | refine Ext.drew ?_ | refine Ext.drewN ?_ _ | refine Ext.alloc ?_ _ | refine Ext.setCell ?_ ?_ _ | refine Ext.trans ?_ (by assumption)))); all_goals (first | (simp; done) | (simp; omega)))) (fun hHeld => ?_); clear hK K; try simp only [Act.put, List.setIfInBounds_toArray, List.set_cons_zero, List.set_cons_succ])
        iterate 2 (apply SeqH.free; (· (simp only [List.getElem?_toArray, List.getElem?_cons_succ, List.getElem?_cons_zero]; rfl)); (· first | exact Or.inr ⟨by rfl, rfl⟩ | (refine Or.inl ⟨by rfl, ?_⟩; intro w hSw; (try dsimp only at hSw); go_simp; try with_reducible rfl)); try simp only [Act.put, List.setIfInBounds_toArray, List.set_cons_zero, List.set_cons_succ])
        refine SeqH.done ?_
        have hx9 := hHeld.2
        clear hHeld
        go_wp2_with fail
        go_ret
        exact ⟨rfl, hxw.trans (by (with_reducible (repeat' (first | exact Ext.refl _ | assumption | refine Ext.drew ?_ | refine Ext.drewN ?_ _ | refine Ext.alloc ?_ _ | refine Ext.setCell ?_ ?_ _ | refine Ext.trans ?_ (by assumption)))); all_goals (first | (simp; done) | (simp; omega)))⟩
      · simp only [Bool.true_and] at I1
        cases y
        · go_wp2_with fail
          refine seqH_start (S := (fun W => (∀ b o, b < wr.heap.size → W.cell? ⟨b, o, none⟩ = wr.cell? ⟨b, o, none⟩) ∧ Ext wr W)) [(0, true), (1, true), (3, true), (4, true), (5, true), (6, true), (2, false), (7, false), (8, true), (9, true), (10, true), (11, true), (12, true), (13, false), (14, true), (15, true), (16, true), (17, true), (18, true), (19, false), (20, true), (21, true), (22, false), (23, true), (24, true)] (by kernel_rfl) (by kernel_rfl) (by kernel_rfl) (by decide) (fun _ _ d _ _ h => by cases d <;> exact h) (by first | with_reducible exact pr_start _ | exact pr_of (by (with_reducible (repeat' (first | exact Ext.refl _ | assumption | refine Ext.drew ?_ | refine Ext.drewN ?_ _ | refine Ext.alloc ?_ _ | refine Ext.setCell ?_ ?_ _ | refine Ext.trans ?_ (by assumption)))); all_goals (first | (simp; done) | (simp; omega)))) (fun hHeld => ?_)
          iterate 6 (apply SeqH.free; (· (simp only [List.getElem?_toArray, List.getElem?_cons_succ, List.getElem?_cons_zero]; rfl)); (· first | exact Or.inr ⟨by rfl, rfl⟩ | (refine Or.inl ⟨by rfl, ?_⟩; intro w hSw; (try dsimp only at hSw); go_simp; try with_reducible rfl)); try simp only [Act.put, List.setIfInBounds_toArray, List.set_cons_zero, List.set_cons_succ])
          (apply SeqH.step; (· (simp only [List.getElem?_toArray, List.getElem?_cons_succ, List.getElem?_cons_zero]; rfl)); intro K hK; go_simp; refine (I1.out _ (by (with_reducible (repeat' (first | exact Ext.refl _ | assumption | refine Ext.drew ?_ | refine Ext.drewN ?_ _ | refine Ext.alloc ?_ _ | refine Ext.setCell ?_ ?_ _ | refine Ext.trans ?_ (by assumption)))); all_goals (first | (simp; done) | (simp; omega)))).mono ?_; rintro e w6 ⟨rfl, hb6⟩; go_wp2_with fail; refine hK.out _ _ (pr_of (by (with_reducible (repeat' (first | exact Ext.refl _ | assumption | refine Ext.drew ?_ | refine Ext.drewN ?_ _ | refine Ext.alloc ?_ _ | refine Ext.setCell ?_ ?_ _ | refine Ext.trans ?_ (by assumption)))); all_goals (first | (simp; done) | (simp; omega)))) (fun hHeld => ?_); clear hK K; try simp only [Act.put, List.setIfInBounds_toArray, List.set_cons_zero, List.set_cons_succ])
          (apply SeqH.step; (· (simp only [List.getElem?_toArray, List.getElem?_cons_succ, List.getElem?_cons_zero]; rfl)); intro K hK; go_simp; refine (IC.out _ (by (with_reducible (repeat' (first | exact Ext.refl _ | assumption | refine Ext.drew ?_ | refine Ext.drewN ?_ _ | refine Ext.alloc ?_ _ | refine Ext.setCell ?_ ?_ _ | refine Ext.trans ?_ (by assumption)))); all_goals (first | (simp; done) | (simp; omega)))).mono ?_; rintro e w7 ⟨rfl, hb7⟩; go_wp2_with fail; refine hK.out _ _ (pr_of (by (with_reducible (repeat' (first | exact Ext.refl _ | assumption | refine Ext.drew ?_ | refine Ext.drewN ?_ _ | refine Ext.alloc ?_ _ | refine Ext.setCell ?_ ?_ _ | refine Ext.trans ?_ (by assumption)))); all_goals (first | (simp; done) | (simp; omega)))) (fun hHeld => ?_); clear hK K; try simp only [Act.put, List.setIfInBounds_toArray, List.set_cons_zero, List.set_cons_succ])
          iterate 5 (apply SeqH.free; (· (simp only [List.getElem?_toArray, List.getElem?_cons_succ, List.getElem?_cons_zero]; rfl)); (· first | exact Or.inr ⟨by rfl, rfl⟩ | (refine Or.inl ⟨by rfl, ?_⟩; intro w hSw; (try dsimp only at hSw); go_simp; try with_reducible rfl)); try simp only [Act.put, List.setIfInBounds_toArray, List.set_cons_zero, List.set_cons_succ])
          (apply SeqH.step; (· (simp only [List.getElem?_toArray, List.getElem?_cons_succ, List.getElem?_cons_zero]; rfl)); intro K hK; go_simp; refine (IR.out _ (by (with_reducible (repeat' (first | exact Ext.refl _ | assumption | refine Ext.drew ?_ | refine Ext.drewN ?_ _ | refine Ext.alloc ?_ _ | refine Ext.setCell ?_ ?_ _ | refine Ext.trans ?_ (by assumption)))); all_goals (first | (simp; done) | (simp; omega)))).mono ?_; rintro e w5 ⟨rfl, hb5⟩; go_wp2_with fail; refine hK.out _ _ (pr_of (by (with_reducible (repeat' (first | exact Ext.refl _ | assumption | refine Ext.drew ?_ | refine Ext.drewN ?_ _ | refine Ext.alloc ?_ _ | refine Ext.setCell ?_ ?_ _ | refine Ext.trans ?_ (by assumption)))); all_goals (first | (simp; done) | (simp; omega)))) (fun hHeld => ?_); clear hK K; try simp only [Act.put, List.setIfInBounds_toArray, List.set_cons_zero, List.set_cons_succ])
          iterate 5 (apply SeqH.free; (· (simp only [List.getElem?_toArray, List.getElem?_cons_succ, List.getElem?_cons_zero]; rfl)); (· first | exact Or.inr ⟨by rfl, rfl⟩ | (refine Or.inl ⟨by rfl, ?_⟩; intro w hSw; (try dsimp only at hSw); go_simp; try with_reducible rfl)); try simp only [Act.put, List.setIfInBounds_toArray, List.set_cons_zero, List.set_cons_succ])
          (apply SeqH.step; (· (simp only [List.getElem?_toArray, List.getElem?_cons_succ, List.getElem?_cons_zero]; rfl)); intro K hK; go_simp; refine (I2.out _ (by (with_reducible (repeat' (first | exact Ext.refl _ | assumption | refine Ext.drew ?_ | refine Ext.drewN ?_ _ | refine Ext.alloc ?_ _ | refine Ext.setCell ?_ ?_ _ | refine Ext.trans ?_ (by assumption)))); all_goals (first | (simp; done) | (simp; omega)))).mono ?_; rintro e w8 ⟨rfl, hb8⟩; go_wp2_with fail; refine hK.out _ _ (pr_of (by (with_reducible (repeat' (first | exact Ext.refl _ | assumption | refine Ext.drew ?_ | refine Ext.drewN ?_ _ | refine Ext.alloc ?_ _ | refine Ext.setCell ?_ ?_ _ | refine Ext.trans ?_ (by assumption)))); all_goals (first | (simp; done) | (simp; omega)))) (fun hHeld => ?_); clear hK K; try simp only [Act.put, List.setIfInBounds_toArray, List.set_cons_zero, List.set_cons_succ])
          iterate 2 (apply SeqH.free; (· (simp only [List.getElem?_toArray, List.getElem?_cons_succ, List.getElem?_cons_zero]; rfl)); (· first | exact Or.inr ⟨by rfl, rfl⟩ | (refine Or.inl ⟨by rfl, ?_⟩; intro w hSw; (try dsimp only at hSw); go_simp; try with_reducible rfl)); try simp only [Act.put, List.setIfInBounds_toArray, List.set_cons_zero, List.set_cons_succ])
          (apply SeqH.step; (· (simp only [List.getElem?_toArray, List.getElem?_cons_succ, List.getElem?_cons_zero]; rfl)); intro K hK; go_simp; refine (awake13_any _).mono ?_; rintro e w9 ⟨rfl, hb9⟩; go_wp2_with fail; refine hK.out _ _ (pr_of (by (with_reducible (repeat' (first | exact Ext.refl _ | assumption | refine Ext.drew ?_ | refine Ext.drewN ?_ _ | refine Ext.alloc ?_ _ | refine Ext.setCell ?_ ?_ _ | refine Ext.trans ?_ (by assumption)))); all_goals (first | (simp; done) | (simp; omega)))) (fun hHeld => ?_); clear hK K; try simp only [Act.put, List.setIfInBounds_toArray, List.set_cons_zero, List.set_cons_succ])
          iterate 2 (apply SeqH.free; (· (simp only [List.getElem?_toArray, List.getElem?_cons_succ, List.getElem?_cons_zero]; rfl)); (· first | exact Or.inr ⟨by rfl, rfl⟩ | (refine Or.inl ⟨by rfl, ?_⟩; intro w hSw; (try dsimp only at hSw); go_simp; try with_reducible rfl)); try simp only [Act.put, List.setIfInBounds_toArray, List.set_cons_zero, List.set_cons_succ])
          refine SeqH.done ?_
          have hx9 := hHeld.2
          clear hHeld
          go_wp2_with fail
          go_ret
          exact ⟨rfl, hxw.trans (by (with_reducible (repeat' (first | exact Ext.refl _ | assumption | refine Ext.drew ?_ | refine Ext.drewN ?_ _ | refine Ext.alloc ?_ _ | refine Ext.setCell ?_ ?_ _ | refine Ext.trans ?_ (by assumption)))); all_goals (first | (simp; done) | (simp; omega)))⟩
        · go_wp2_with fail
          refine seqH_start (S := (fun W => (∀ b o, b < wr.heap.size → W.cell? ⟨b, o, none⟩ = wr.cell? ⟨b, o, none⟩) ∧ Ext wr W)) [(0, true), (1, true), (3, true), (4, true), (5, true), (6, true), (2, false), (7, false), (8, true), (9, true), (10, true), (11, true), (12, true), (13, false), (14, true), (15, true), (16, true), (17, true), (18, true), (19, false), (20, true), (21, true), (22, false), (23, true), (24, true)] (by kernel_rfl) (by kernel_rfl) (by kernel_rfl) (by decide) (fun _ _ d _ _ h => by cases d <;> exact h) (by first | with_reducible exact pr_start _ | exact pr_of (by (with_reducible (repeat' (first | exact Ext.refl _ | assumption | refine Ext.drew ?_ | refine Ext.drewN ?_ _ | refine Ext.alloc ?_ _ | refine Ext.setCell ?_ ?_ _ | refine Ext.trans ?_ (by assumption)))); all_goals (first | (simp; done) | (simp; omega)))) (fun hHeld => ?_)
          iterate 6 (apply SeqH.free; (· (simp only [List.getElem?_toArray, List.getElem?_cons_succ, List.getElem?_cons_zero]; rfl)); (· first | exact Or.inr ⟨by rfl, rfl⟩ | (refine Or.inl ⟨by rfl, ?_⟩; intro w hSw; (try dsimp only at hSw); go_simp; try with_reducible rfl)); try simp only [Act.put, List.setIfInBounds_toArray, List.set_cons_zero, List.set_cons_succ])
          (apply SeqH.step; (· (simp only [List.getElem?_toArray, List.getElem?_cons_succ, List.getElem?_cons_zero]; rfl)); intro K hK; go_simp; refine (I1.out _ (by (with_reducible (repeat' (first | exact Ext.refl _ | assumption | refine Ext.drew ?_ | refine Ext.drewN ?_ _ | refine Ext.alloc ?_ _ | refine Ext.setCell ?_ ?_ _ | refine Ext.trans ?_ (by assumption)))); all_goals (first | (simp; done) | (simp; omega)))).mono ?_; rintro e w6 ⟨rfl, hb6⟩; go_wp2_with fail; refine hK.out _ _ (pr_of (by (with_reducible (repeat' (first | exact Ext.refl _ | assumption | refine Ext.drew ?_ | refine Ext.drewN ?_ _ | refine Ext.alloc ?_ _ | refine Ext.setCell ?_ ?_ _ | refine Ext.trans ?_ (by assumption)))); all_goals (first | (simp; done) | (simp; omega)))) (fun hHeld => ?_); clear hK K; try simp only [Act.put, List.setIfInBounds_toArray, List.set_cons_zero, List.set_cons_succ])
          (apply SeqH.step; (· (simp only [List.getElem?_toArray, List.getElem?_cons_succ, List.getElem?_cons_zero]; rfl)); intro K hK; go_simp; refine (IC.out _ (by (with_reducible (repeat' (first | exact Ext.refl _ | assumption | refine Ext.drew ?_ | refine Ext.drewN ?_ _ | refine Ext.alloc ?_ _ | refine Ext.setCell ?_ ?_ _ | refine Ext.trans ?_ (by assumption)))); all_goals (first | (simp; done) | (simp; omega)))).mono ?_; rintro e w7 ⟨rfl, hb7⟩; go_wp2_with fail; refine hK.out _ _ (pr_of (by (with_reducible (repeat' (first | exact Ext.refl _ | assumption | refine Ext.drew ?_ | refine Ext.drewN ?_ _ | refine Ext.alloc ?_ _ | refine Ext.setCell ?_ ?_ _ | refine Ext.trans ?_ (by assumption)))); all_goals (first | (simp; done) | (simp; omega)))) (fun hHeld => ?_); clear hK K; try simp only [Act.put, List.setIfInBounds_toArray, List.set_cons_zero, List.set_cons_succ])
          iterate 5 (apply SeqH.free; (· (simp only [List.getElem?_toArray, List.getElem?_cons_succ, List.getElem?_cons_zero]; rfl)); (· first | exact Or.inr ⟨by rfl, rfl⟩ | (refine Or.inl ⟨by rfl, ?_⟩; intro w hSw; (try dsimp only at hSw); go_simp; try with_reducible rfl)); try simp only [Act.put, List.setIfInBounds_toArray, List.set_cons_zero, List.set_cons_succ])
          (apply SeqH.step; (· (simp only [List.getElem?_toArray, List.getElem?_cons_succ, List.getElem?_cons_zero]; rfl)); intro K hK; go_simp; refine (IR.out _ (by (with_reducible (repeat' (first | exact Ext.refl _ | assumption | refine Ext.drew ?_ | refine Ext.drewN ?_ _ | refine Ext.alloc ?_ _ | refine Ext.setCell ?_ ?_ _ | refine Ext.trans ?_ (by assumption)))); all_goals (first | (simp; done) | (simp; omega)))).mono ?_; rintro e w5 ⟨rfl, hb5⟩; go_wp2_with fail; refine hK.out _ _ (pr_of (by (with_reducible (repeat' (first | exact Ext.refl _ | assumption | refine Ext.drew ?_ | refine Ext.drewN ?_ _ | refine Ext.alloc ?_ _ | refine Ext.setCell ?_ ?_ _ | refine Ext.trans ?_ (by assumption)))); all_goals (first | (simp; done) | (simp; omega)))) (fun hHeld => ?_); clear hK K; try simp only [Act.put, List.setIfInBounds_toArray, List.set_cons_zero, List.set_cons_succ])
          iterate 5 (apply SeqH.free; (· (simp only [List.getElem?_toArray, List.getElem?_cons_succ, List.getElem?_cons_zero]; rfl)); (· first | exact Or.inr ⟨by rfl, rfl⟩ | (refine Or.inl ⟨by rfl, ?_⟩; intro w hSw; (try dsimp only at hSw); go_simp; try with_reducible rfl)); try simp only [Act.put, List.setIfInBounds_toArray, List.set_cons_zero, List.set_cons_succ])
          (apply SeqH.step; (· (simp only [List.getElem?_toArray, List.getElem?_cons_succ, List.getElem?_cons_zero]; rfl)); intro K hK; go_simp; refine (I2.out _ (by (with_reducible (repeat' (first | exact Ext.refl _ | assumption | refine Ext.drew ?_ | refine Ext.drewN ?_ _ | refine Ext.alloc ?_ _ | refine Ext.setCell ?_ ?_ _ | refine Ext.trans ?_ (by assumption)))); all_goals (first | (simp; done) | (simp; omega)))).mono ?_; rintro e w8 ⟨rfl, hb8⟩; go_wp2_with fail; refine hK.out _ _ (pr_of (by (with_reducible (repeat' (first | exact Ext.refl _ | assumption | refine Ext.drew ?_ | refine Ext.drewN ?_ _ | refine Ext.alloc ?_ _ | refine Ext.setCell ?_ ?_ _ | refine Ext.trans ?_ (by assumption)))); all_goals (first | (simp; done) | (simp; omega)))) (fun hHeld => ?_); clear hK K; try simp only [Act.put, List.setIfInBounds_toArray, List.set_cons_zero, List.set_cons_succ])
          iterate 2 (apply SeqH.free; (· (simp only [List.getElem?_toArray, List.getElem?_cons_succ, List.getElem?_cons_zero]; rfl)); (· first | exact Or.inr ⟨by rfl, rfl⟩ | (refine Or.inl ⟨by rfl, ?_⟩; intro w hSw; (try dsimp only at hSw); go_simp; try with_reducible rfl)); try simp only [Act.put, List.setIfInBounds_toArray, List.set_cons_zero, List.set_cons_succ])
          (apply SeqH.step; (· (simp only [List.getElem?_toArray, List.getElem?_cons_succ, List.getElem?_cons_zero]; rfl)); intro K hK; go_simp; refine (awake13_any _).mono ?_; rintro e w9 ⟨rfl, hb9⟩; go_wp2_with fail; refine hK.out _ _ (pr_of (by (with_reducible (repeat' (first | exact Ext.refl _ | assumption | refine Ext.drew ?_ | refine Ext.drewN ?_ _ | refine Ext.alloc ?_ _ | refine Ext.setCell ?_ ?_ _ | refine Ext.trans ?_ (by assumption)))); all_goals (first | (simp; done) | (simp; omega)))) (fun hHeld => ?_); clear hK K; try simp only [Act.put, List.setIfInBounds_toArray, List.set_cons_zero, List.set_cons_succ])
          iterate 2 (apply SeqH.free; (· (simp only [List.getElem?_toArray, List.getElem?_cons_succ, List.getElem?_cons_zero]; rfl)); (· first | exact Or.inr ⟨by rfl, rfl⟩ | (refine Or.inl ⟨by rfl, ?_⟩; intro w hSw; (try dsimp only at hSw); go_simp; try with_reducible rfl)); try simp only [Act.put, List.setIfInBounds_toArray, List.set_cons_zero, List.set_cons_succ])
          refine SeqH.done ?_
          have hx9 := hHeld.2
          clear hHeld
          go_wp2_with fail
          go_ret
          exact ⟨rfl, hxw.trans (by (with_reducible (repeat' (first | exact Ext.refl _ | assumption | refine Ext.drew ?_ | refine Ext.drewN ?_ _ | refine Ext.alloc ?_ _ | refine Ext.setCell ?_ ?_ _ | refine Ext.trans ?_ (by assumption)))); all_goals (first | (simp; done) | (simp; omega)))⟩

theorem innerSame_any {w : World} (a b ra rb : Option Addr) (l m : List Cell) (ll mm : List (List Int)) (c d rc rd : Nat) (ha : RowC w a l) (hb : RowC w b m) (hra : RowsU w ra ll) (hrb : RowsU w rb mm) :
    Calls Try.prog 8 #[.agg #[.slice a l.length c, .slice ra ll.length rc], .agg #[.slice b m.length d, .slice rb mm.length rd]] w fun e w' => e = .returned (.bool true) ∧ Ext w w' := by
  by_cases h1 : 20 < l.length
  · exact is_1 a b ra rb _ _ _ _ c d rc rd h1
  · by_cases h2 : 20 < m.length
    · exact is_2 a b ra rb _ _ _ _ c d rc rd h1 h2
    · by_cases h3 : 20 < ll.length
      · exact is_3 a b ra rb _ _ _ _ c d rc rd h1 h2 h3
      · by_cases h4 : 20 < mm.length
        · exact is_4 a b ra rb _ _ _ _ c d rc rd h1 h2 h3 h4
        · exact is_near c d rc rd ha hb hra hrb h1 h2 h3 h4
end Go.Proofs.Ytifbmapianddcaa

/- Arguments that came in as data, opened: structs of numbers by value. -/
namespace Go.Proofs.Ytifbmapianddcaa
open Go.RowKit Go.ChangeShapes Go.WideShapes Go.ChangeAt

section
variable {H : Type} {enc : TypeId × Value → H} {w : World} {r : Reach} {base b0 : Nat} {spare : Nat → Bool} {held : Bool}

theorem InI_wf {n : Int} (h : (Lit.int .i64 n).wf = true) : InI n := by
  have hmin : IntKind.i64.min = -9223372036854775808 := rfl
  have hmax : IntKind.i64.max = 9223372036854775807 := rfl
  simp only [Lit.wf, Bool.and_eq_true, decide_eq_true_eq] at h
  unfold InI; omega

theorem one_int {fuel : Nat} {v : Value} {x : DataW H × List MemPlace} (h : DataW.trod enc Try.prog w base spare held fuel 3 [v] = some x) : ∃ n, v = .int .i64 n ∧ InI n := by
  obtain ⟨n, hc, _, hw⟩ := DataW.trod_int Try.underlying3 h
  simp at hc
  exact ⟨n, hc, InI_wf hw⟩

theorem trod_two {t : TypeId} {f0 f1 : Field} {fuel : Nat} {c0 c1 : Value} {x : DataW H × List MemPlace} (ht : Try.prog.underlying t = some (.struct #[f0, f1])) (e0 : f0.type = 3 ∧ f0.offset = 0) (e1 : f1.type = 3 ∧ f1.offset = 1) (h : DataW.trod enc Try.prog w base spare held fuel t [c0, c1] = some x) :
    ∃ a b, c0 = .int .i64 a ∧ c1 = .int .i64 b ∧ InI a ∧ InI b := by
  obtain ⟨xs, n, _, _, _, hlen, hf⟩ := DataW.trod_struct ht h
  have hc : Try.prog.cellsOf 3 = 1 := by kernel_rfl
  match xs, hlen with
  | [y0, y1], _ =>
    have h0 := hf 0 f0 rfl
    have h1 := hf 1 f1 rfl
    rw [e0.1, e0.2, hc] at h0
    rw [e1.1, e1.2, hc] at h1
    obtain ⟨a, rfl, ha⟩ := one_int h0
    obtain ⟨b, rfl, hb⟩ := one_int h1
    exact ⟨a, b, rfl, rfl, ha, hb⟩

set_option maxRecDepth 100000 in
theorem cells_cell : Try.prog.cellsOf 28 = 2 := by kernel_rfl
set_option maxRecDepth 100000 in
theorem cells_size : Try.prog.cellsOf 23 = 2 := by kernel_rfl

set_option maxRecDepth 100000 in
theorem open_cell {v : Value} {d : DataW H} {p : List MemPlace} (hv : Value.okWide Try.prog w r b0 28 v) (h : DataW.Trod enc Try.prog w base spare held 28 v d p) : ∃ x y, v = .agg #[.int .i64 x, .int .i64 y] ∧ InI x ∧ InI y := by
  obtain ⟨cs, rfl, hsz⟩ := okWide_struct Try.underlying28 hv
  obtain ⟨l⟩ := cs
  rw [cells_cell] at hsz
  match l, hsz with
  | [c0, c1], _ =>
    obtain ⟨fuel, hf⟩ := h
    obtain ⟨a, b, rfl, rfl, ha, hb⟩ := trod_two Try.underlying28 ⟨rfl, rfl⟩ ⟨rfl, rfl⟩ hf
    exact ⟨a, b, rfl, ha, hb⟩

set_option maxRecDepth 100000 in
theorem cells_parts : Try.prog.cellsOf 51 = 3 := by kernel_rfl
set_option maxRecDepth 100000 in
theorem open_parts {v : Value} {d : DataW H} {p : List MemPlace} (hv : Value.okWide Try.prog w r b0 51 v) (h : DataW.Trod enc Try.prog w base spare held 51 v d p) : ∃ x y z, v = .agg #[.int .i64 x, .int .i64 y, .int .i64 z] ∧ InI x ∧ InI y ∧ InI z := by
  obtain ⟨cs, rfl, hsz⟩ := okWide_struct Try.underlying51 hv
  obtain ⟨l⟩ := cs
  rw [cells_parts] at hsz
  match l, hsz with
  | [c0, c1, c2], _ =>
    obtain ⟨fuel, hf⟩ := h
    obtain ⟨xs, n, _, _, _, hlen, hf⟩ := DataW.trod_struct Try.underlying51 hf
    match xs, hlen with
    | [y0, y1], _ =>
      have h0 := hf 0 _ rfl
      have h1 := hf 1 _ rfl
      obtain ⟨a, b, rfl, rfl, ha, hb⟩ := trod_two (c0 := c0) (c1 := c1) Try.underlying23 ⟨rfl, rfl⟩ ⟨rfl, rfl⟩ h0
      obtain ⟨c, rfl, hc⟩ := one_int (v := c2) h1
      exact ⟨a, b, c, rfl, ha, hb, hc⟩
end
theorem own : ownKnob Try.prog.godebug = none := by kernel_rfl
theorem laidOut : laidOutB Try.prog = true := by kernel_rfl
end Go.Proofs.Ytifbmapianddcaa

/- Arguments that came in as data, opened: fields of costs, and arrays of two numbers. -/
namespace Go.Proofs.Ytifbmapianddcaa
open Go.RowKit Go.ChangeShapes Go.WideShapes Go.ChangeAt

section
variable {H : Type} {enc : TypeId × Value → H} {w : World} {r : Reach} {base b0 : Nat} {spare : Nat → Bool} {held : Bool}

/-- What came in as a field. -/
def FieldV (w : World) (W Hh : Int) (a : Option Addr) (l : List Int) : Prop := InI W ∧ InI Hh ∧ (l.length : Int) ≤ 9223372036854775807 ∧ Row16 w a l ∧ U16s l

set_option maxRecDepth 100000 in
theorem cells_field : Try.prog.cellsOf 26 = 3 := by kernel_rfl
set_option maxRecDepth 100000 in
theorem cells_u16 : Try.prog.cellsOf 46 = 1 := by kernel_rfl

theorem row16_of {a : Addr} {len : Nat} {zs : List Int} (hlen : len ≤ zs.length) (hc : ∀ i, i < zs.length → w.cell? (a.add i) = some (.int .u16 (zs.getD i 0))) (hw : ∀ n ∈ zs, (Lit.int .u16 n).wf = true) : (zs.take len).length = len ∧ Row16 w (some a) (zs.take len) ∧ U16s (zs.take len) := by
  have hl : (zs.take len).length = len := by rw [List.length_take]; omega
  refine ⟨hl, fun h0 => ?_, fun x hx => ?_⟩
  · obtain ⟨b, off, spot⟩ := a
    have z0 := hc 0 (by omega)
    have hspot : spot = none := by simpa [Addr.add] using World.cell?_spot z0
    subst hspot
    have z0' : w.cell? ⟨b, off, none⟩ = some (.int .u16 (zs.getD 0 0)) := by simpa [Addr.add] using z0
    refine ⟨b, off, rfl, World.block_lt_of_cell? w _ z0', fun k hk => ?_⟩
    have := hc k (by omega)
    rw [Addr.add_lit] at this
    rw [this]
    have hk' : k < zs.length := by omega
    simp [List.getD_eq_getElem?_getD, hk']
  · have hmem : x ∈ zs := List.mem_of_mem_take hx
    have h := hw x hmem
    have hmin : IntKind.u16.min = 0 := rfl
    have hmax : IntKind.u16.max = 65535 := rfl
    simp only [Lit.wf, Bool.and_eq_true, decide_eq_true_eq] at h
    omega

set_option maxRecDepth 100000 in
theorem open_field {v : Value} {d : DataW H} {p : List MemPlace} (hv : Value.okWide Try.prog w r b0 26 v) (h : DataW.Trod enc Try.prog w base spare held 26 v d p) :
    ∃ W Hh a l c, v = .agg #[.int .i64 W, .int .i64 Hh, .slice a (List.length l) c] ∧ FieldV w W Hh a l := by
  obtain ⟨cs, rfl, hsz⟩ := okWide_struct Try.underlying26 hv
  obtain ⟨l⟩ := cs
  rw [cells_field] at hsz
  match l, hsz with
  | [c0, c1, c2], _ =>
    obtain ⟨fuel, hf⟩ := h
    obtain ⟨xs, n, _, _, _, hlen, hf⟩ := DataW.trod_struct Try.underlying26 hf
    match xs, hlen with
    | [y0, y1], _ =>
      have h0 := hf 0 _ rfl
      have h1 := hf 1 _ rfl
      obtain ⟨a, b, rfl, rfl, ha, hb⟩ := trod_two (c0 := c0) (c1 := c1) Try.underlying23 ⟨rfl, rfl⟩ ⟨rfl, rfl⟩ h0
      have h1' : DataW.trod enc Try.prog w base spare held n 24 [c2] = some y1 := h1
      rcases open_ints Try.underlying24 Try.underlying46 cells_u16 h1' with ⟨hc, _⟩ | ⟨ad, len, cap, zs, hc, _, hl, hm, hz, _, hcell, hwz⟩
      · simp at hc
        subst hc
        exact ⟨a, b, none, [], 0, rfl, ha, hb, by simp, fun h => by simp at h, fun x hx => by simp at hx⟩
      · simp at hc
        subst hc
        have hle : len ≤ zs.length := by rw [hz]; split <;> omega
        obtain ⟨q1, q2, q3⟩ := row16_of hle hcell hwz
        refine ⟨a, b, some ad, zs.take len, cap, by rw [q1], ha, hb, ?_, q2, q3⟩
        rw [q1]; unfold maxLen at hm; omega

end
end Go.Proofs.Ytifbmapianddcaa

/- Arguments that came in as data, opened: slices of structs of two numbers. -/
namespace Go.Proofs.Ytifbmapianddcaa
open Go.RowKit Go.ChangeShapes Go.WideShapes Go.ChangeAt

theorem list_of {α : Type} {Q : Nat → α → Prop} (n : Nat) (h : ∀ i, i < n → ∃ a, Q i a) : ∃ l : List α, l.length = n ∧ ∀ i (hi : i < l.length), Q i l[i] := by
  induction n with
  | zero => exact ⟨[], rfl, fun i hi => by simp at hi⟩
  | succ n ih =>
    obtain ⟨l, hl, hq⟩ := ih (fun i hi => h i (by omega))
    obtain ⟨a, ha⟩ := h n (by omega)
    refine ⟨l ++ [a], by simp [hl], fun i hi => ?_⟩
    by_cases hin : i < l.length
    · rw [List.getElem_append_left hin]; exact hq i hin
    · have e : i = l.length := by simp at hi; omega
      subst e
      rw [List.getElem_append_right (Nat.le_refl _)]
      simpa [hl] using ha

section
variable {H : Type} {enc : TypeId × Value → H} {P : Program} {w : World} {base : Nat} {spare : Nat → Bool} {held : Bool}

/-- A slice of structs of two numbers of given kinds. -/
theorem open_pairs2 {t e t0 t1 : TypeId} {q0 q1 : IntKind} {f0 f1 : Field} {fuel : Nat} {cs : List Value} {x : DataW H × List MemPlace} (ht : P.underlying t = some (.slice e)) (he : P.underlying e = some (.struct #[f0, f1])) (hC : P.cellsOf e = 2)
    (e0 : f0.type = t0 ∧ f0.offset = 0) (e1 : f1.type = t1 ∧ f1.offset = 1) (h0 : P.underlying t0 = some (.int q0)) (h1 : P.underlying t1 = some (.int q1)) (c0 : P.cellsOf t0 = 1) (c1 : P.cellsOf t1 = 1)
    (h : DataW.trod enc P w base spare held fuel t cs = some x) :
    cs = [.slice none 0 0] ∨ ∃ a len cap, cs = [.slice a len cap] ∧ len ≤ maxLen ∧ (0 < len → ∃ b off, ∃ l : List (Int × Int), a = some ⟨b, off, none⟩ ∧ b < w.heap.size ∧ l.length = len ∧
      ∀ k (hk : k < l.length), (w.cell? ⟨b, off + k * 2, none⟩ = some (.int q0 l[k].1) ∧ w.cell? ⟨b, off + k * 2 + 1, none⟩ = some (.int q1 l[k].2)) ∧ (Lit.int q0 l[k].1).wf = true ∧ (Lit.int q1 l[k].2).wf = true) := by
  rcases Go.Deep.open_slice ht h with h | ⟨a, len, cap, m, n, D, Pl, rfl, _, hl, hm, hmm, _, hi⟩
  · exact .inl h.1
  · refine .inr ⟨some a, len, cap, rfl, by omega, fun hpos => ?_⟩
    have each : ∀ i, i < len → ∃ p : Int × Int, (w.cell? (a.add (i * 2)) = some (.int q0 p.1) ∧ w.cell? (a.add (i * 2 + 1)) = some (.int q1 p.2)) ∧ (Lit.int q0 p.1).wf = true ∧ (Lit.int q1 p.2).wf = true := by
      intro i hlt
      obtain ⟨cs', hc, ht'⟩ := hi i (by rw [hmm]; split <;> omega)
      rw [hC] at hc
      obtain ⟨_, hlen, hat⟩ := World.cells?_some hc
      obtain ⟨xs, n', _, _, _, hxl, hf⟩ := DataW.trod_struct he ht'
      match cs', hlen, xs, hxl with
      | [v0, v1], _, [y0, y1], _ =>
        have g0 := hf 0 f0 rfl
        have g1 := hf 1 f1 rfl
        rw [e0.1, e0.2, c0] at g0
        rw [e1.1, e1.2, c1] at g1
        obtain ⟨p0, hp0, _, hw0⟩ := DataW.trod_int h0 g0
        obtain ⟨p1, hp1, _, hw1⟩ := DataW.trod_int h1 g1
        simp at hp0 hp1
        subst hp0
        subst hp1
        have a0 := hat 0 (by omega)
        have a1 := hat 1 (by omega)
        rw [Go.Deep.add_add] at a0 a1
        exact ⟨(p0, p1), ⟨a0, a1⟩, hw0, hw1⟩
    obtain ⟨l, hll, hq⟩ := list_of len each
    obtain ⟨b, off, spot⟩ := a
    have z0 := (hq 0 (by omega)).1.1
    rw [Nat.zero_mul] at z0
    have hspot : spot = none := by simpa [Addr.add] using World.cell?_spot z0
    subst hspot
    have hb : b < w.heap.size := World.block_lt_of_cell? w _ z0
    refine ⟨b, off, l, rfl, hb, hll, fun k hk => ?_⟩
    have := hq k hk
    rw [Addr.add_lit, Addr.add_lit] at this
    exact this
end
end Go.Proofs.Ytifbmapianddcaa

/- What the statements of layer 13 are given, that came in as data: a cluster, cells of it, and one cell; parts. -/
namespace Go.Proofs.Ytifbmapianddcaa
open Go.RowKit Go.ChangeShapes Go.WideShapes Go.ChangeAt
section
variable {H : Type} {enc : TypeId × Value → H} {w : World} {r : Reach} {base b0 : Nat} {spare : Nat → Bool} {held : Bool}

set_option maxRecDepth 100000 in
theorem cells_int1 : Try.prog.cellsOf 3 = 1 := by kernel_rfl
theorem ini_wf {n : Int} (h : (Lit.int .i64 n).wf = true) : InI n := InI_wf h

set_option maxRecDepth 100000 in
theorem open_cells {fuel : Nat} {v : Value} {x : DataW H × List MemPlace} (h : DataW.trod enc Try.prog w base spare held fuel 37 [v] = some x) : ∃ a c l, v = .slice a (List.length l) c ∧ CellsV w a l := by
  rcases open_pairs2 Try.underlying37 Try.underlying28 cells_cell ⟨rfl, rfl⟩ ⟨rfl, rfl⟩ Try.underlying3 Try.underlying3 cells_int1 cells_int1 h with hc | ⟨a, len, cap, hc, hm, hp⟩
  · simp at hc
    subst hc
    exact ⟨none, 0, [], rfl, by simp, (fun h => by simp at h), fun p hp => by cases hp⟩
  · simp at hc
    subst hc
    by_cases h0 : 0 < len
    · obtain ⟨b, off, l, rfl, hb, hl, hk⟩ := hp h0
      refine ⟨_, cap, l, by rw [hl], by unfold maxLen at hm; omega, fun _ => ⟨b, off, rfl, hb, fun k hk' => (hk k hk').1⟩, fun p hp => ?_⟩
      obtain ⟨k, hkl, rfl⟩ := List.getElem_of_mem hp
      have h1 := (hk k hkl).2
      exact ⟨InI_wf h1.1, InI_wf h1.2⟩
    · obtain rfl : len = 0 := by omega
      exact ⟨a, cap, [], rfl, by simp, (fun h => by simp at h), fun p hp => by cases hp⟩

set_option maxRecDepth 100000 in
theorem cells_case13 : Try.prog.cellsOf 53 = 4 := by kernel_rfl
set_option maxRecDepth 100000 in
theorem cells_slc : Try.prog.cellsOf 37 = 1 := by kernel_rfl
set_option maxRecDepth 100000 in
theorem open_case13 {v : Value} {d : DataW H} {p : List MemPlace} (hv : Value.okWide Try.prog w r b0 53 v) (h : DataW.Trod enc Try.prog w base spare held 53 v d p) : ∃ id a c l x y, v = .agg #[.int .i64 id, .slice a (List.length l) c, .int .i64 x, .int .i64 y] ∧ InI id ∧ InI x ∧ InI y ∧ CellsV w a l := by
  obtain ⟨cs, rfl, hsz⟩ := okWide_struct Try.underlying53 hv
  obtain ⟨l⟩ := cs
  rw [cells_case13] at hsz
  match l, hsz with
  | [c0, c1, c2, c3], _ =>
    obtain ⟨fuel, hf⟩ := h
    obtain ⟨xs, n, _, _, _, hlen, hf⟩ := DataW.trod_struct Try.underlying53 hf
    match xs, hlen with
    | [y0, y1, y2], _ =>
      obtain ⟨a, rfl, ha⟩ := one_int (v := c0) (hf 0 _ rfl)
      obtain ⟨ad, cp, cl, rfl, hcl⟩ := open_cells (v := c1) (hf 1 _ rfl)
      obtain ⟨c, e, rfl, rfl, hc, he⟩ := trod_two (c0 := c2) (c1 := c3) Try.underlying28 ⟨rfl, rfl⟩ ⟨rfl, rfl⟩ (hf 2 _ rfl)
      exact ⟨a, ad, cp, cl, c, e, rfl, ha, hc, he, hcl⟩
end
end Go.Proofs.Ytifbmapianddcaa

/- A table that came in as data. -/
namespace Go.Proofs.Ytifbmapianddcaa
open Go.RowKit Go.ChangeShapes Go.WideShapes Go.ChangeAt
section
variable {H : Type} {enc : TypeId × Value → H} {w : World} {r : Reach} {base b0 : Nat} {spare : Nat → Bool} {held : Bool}

set_option maxRecDepth 100000 in
theorem cells_u64 : Try.prog.cellsOf 38 = 1 := by kernel_rfl
set_option maxRecDepth 100000 in
theorem cells_row : Try.prog.cellsOf 33 = 1 := by kernel_rfl
theorem rowU_of {a : Addr} {len : Nat} {zs : List Int} (hlen : len ≤ zs.length) (hc : ∀ i, i < zs.length → w.cell? (a.add i) = some (.int .u64 (zs.getD i 0))) : (zs.take len).length = len ∧ RowU w (some a) (zs.take len) := by
  have hl : (zs.take len).length = len := by rw [List.length_take]; omega
  refine ⟨hl, fun h0 => ?_⟩
  obtain ⟨b, off, spot⟩ := a
  have z0 := hc 0 (by omega)
  have hspot : spot = none := by simpa [Addr.add] using World.cell?_spot z0
  subst hspot
  have z0' : w.cell? ⟨b, off, none⟩ = some (.int .u64 (zs.getD 0 0)) := by simpa [Addr.add] using z0
  refine ⟨b, off, rfl, World.block_lt_of_cell? w _ z0', fun k hk => ?_⟩
  have := hc k (by omega)
  rw [Addr.add_lit] at this
  rw [this]
  have hk' : k < zs.length := by omega
  simp [List.getD_eq_getElem?_getD, hk']

set_option maxRecDepth 100000 in
theorem open_rowU {fuel : Nat} {v : Value} {x : DataW H × List MemPlace} (h : DataW.trod enc Try.prog w base spare held fuel 33 [v] = some x) : ∃ a c l, v = .slice a (List.length l) c ∧ (l.length : Int) ≤ 9223372036854775807 ∧ RowU w a l := by
  rcases open_ints Try.underlying33 Try.underlying38 cells_u64 h with ⟨hc, _⟩ | ⟨ad, len, cap, zs, hc, _, hl, hm, hz, _, hcell, hwz⟩
  · simp at hc
    subst hc
    exact ⟨none, 0, [], rfl, by simp, fun h => by simp at h⟩
  · simp at hc
    subst hc
    have hle : len ≤ zs.length := by rw [hz]; split <;> omega
    obtain ⟨q1, q2⟩ := rowU_of hle hcell
    exact ⟨some ad, cap, zs.take len, by rw [q1], by rw [q1]; unfold maxLen at hm; omega, q2⟩

set_option maxRecDepth 100000 in
theorem open_rowsU {fuel : Nat} {v : Value} {x : DataW H × List MemPlace} (h : DataW.trod enc Try.prog w base spare held fuel 55 [v] = some x) : ∃ a c ll, v = .slice a (List.length ll) c ∧ (ll.length : Int) ≤ 9223372036854775807 ∧ RowsU w a ll ∧ ∀ r, r ∈ ll → (r.length : Int) ≤ 9223372036854775807 := by
  rcases Go.Deep.open_slice1 Try.underlying55 cells_row h with ⟨hc, _⟩ | ⟨ad, len, cap, m, n, V, D, Pl, hc, _, hl, hm, hmm, _, hi⟩
  · simp at hc
    subst hc
    exact ⟨none, 0, [], rfl, by simp, (fun h => by simp at h), fun r hr => by cases hr⟩
  · simp at hc
    subst hc
    have each : ∀ i, i < len → ∃ l : List Int, ∃ sa sc, w.cell? (ad.add i) = some (.slice sa l.length sc) ∧ RowU w sa l ∧ (l.length : Int) ≤ 9223372036854775807 := by
      intro i hlt
      obtain ⟨h1, h2⟩ := hi i (by rw [hmm]; split <;> omega)
      obtain ⟨sa, sc, l, hv, h3, h4⟩ := open_rowU h2
      exact ⟨l, sa, sc, by rw [h1, hv], h4, h3⟩
    obtain ⟨ll, hll, hq⟩ := list_of len each
    refine ⟨some ad, cap, ll, by rw [hll], by rw [hll]; unfold maxLen at hm; omega, fun h0 => ?_, fun r hr => ?_⟩
    · obtain ⟨b, off, spot⟩ := ad
      obtain ⟨sa0, sc0, z0, _⟩ := hq 0 h0
      have hspot : spot = none := by simpa [Addr.add] using World.cell?_spot z0
      subst hspot
      have hb : b < w.heap.size := World.block_lt_of_cell? w _ z0
      refine ⟨b, off, rfl, hb, fun k hk => ?_⟩
      obtain ⟨sa, sc, h1, h2, _⟩ := hq k hk
      rw [Addr.add_lit] at h1
      exact ⟨sa, sc, h1, h2⟩
    · obtain ⟨k, hk, rfl⟩ := List.getElem_of_mem hr
      obtain ⟨_, _, _, _, h3⟩ := hq k hk
      exact h3

set_option maxRecDepth 100000 in
theorem cells_table : Try.prog.cellsOf 57 = 2 := by kernel_rfl
set_option maxRecDepth 100000 in
theorem open_table {v : Value} {d : DataW H} {p : List MemPlace} (hv : Value.okWide Try.prog w r b0 57 v) (h : DataW.Trod enc Try.prog w base spare held 57 v d p) : ∃ a c l ra rc ll, v = .agg #[.slice a (List.length l) c, .slice ra (List.length ll) rc] ∧ CellsV w a l ∧ (ll.length : Int) ≤ 9223372036854775807 ∧ RowsU w ra ll ∧ ∀ r, r ∈ ll → (r.length : Int) ≤ 9223372036854775807 := by
  obtain ⟨cs, rfl, hsz⟩ := okWide_struct Try.underlying57 hv
  obtain ⟨l⟩ := cs
  rw [cells_table] at hsz
  match l, hsz with
  | [c0, c1], _ =>
    obtain ⟨fuel, hf⟩ := h
    obtain ⟨xs, n, _, _, _, hlen, hf⟩ := DataW.trod_struct Try.underlying57 hf
    match xs, hlen with
    | [y0, y1], _ =>
      obtain ⟨a, c, cl, rfl, h1⟩ := open_cells (v := c0) (hf 0 _ rfl)
      obtain ⟨ra, rc, ll, rfl, h2⟩ := open_rowsU (v := c1) (hf 1 _ rfl)
      exact ⟨a, c, cl, ra, rc, ll, rfl, h1, h2⟩
end
end Go.Proofs.Ytifbmapianddcaa

/- The law InnerSame, as it is said. -/
namespace Go.Proofs.Ytifbmapianddcaa
open Go.RowKit Go.ChangeShapes Go.WideShapes Go.ChangeAt

set_option maxRecDepth 100000 in
theorem innerSame_lifted (os : Os) (started : os.Started) (H : Type) (enc : TypeId × Value → H) :
    ReturnsInHanded {} Try.checked os 8 .any (Rows.innerSameSpec.pre6 enc Try.prog Try.f8 Rows.innerSameRow.domain false) (Rows.innerSameSpec.post enc Try.prog Try.f8 false true false false) := by
  refine returnsInHanded_of_change (C := Try.checked) own started (by kernel_rfl) Try.func8
    (ChangeSpec.witness6 (enc := enc) (C := Try.checked) false ⟨#[], #[.agg #[.slice none 0 0, .slice none 0 0], .agg #[.slice none 0 0, .slice none 0 0]], []⟩ 8 (by kernel_rfl) (by kernel_rfl) (by kernel_rfl) (by kernel_rfl)) ?_
  intro W base args ds gs before hval0 hW hcnd hsz
  have hval : ∀ (j : Nat) t v, Try.f8.params[j]? = some t → args[j]? = some v → Value.okWide Try.prog W .any base t v := hval0
  have hW' := hW
  obtain ⟨p, q, hA0, hV, rfl, hfz, hnd⟩ := hW
  have hA : DataW.TrodAll enc Try.prog W 0 (fun _ => true) true Try.f8.params.toList args.toList ds p := hA0
  rw [Try.params8] at hA hval
  obtain ⟨v0, vs0, d0, ds0, p0, q0, hargs, rfl, rfl, h0, r0⟩ := trodAll_cons hA
  obtain ⟨v1, vs1, d1, ds1, p1, q1, rfl, rfl, rfl, h1, r1⟩ := trodAll_cons r0
  obtain ⟨rfl, rfl, rfl⟩ := trodAll_nil r1
  obtain rfl : args = #[v0, v1] := by cases args; simp_all
  obtain ⟨rfl, rfl⟩ := trodVars_none hV
  have k0 := h0
  have lt0 : ∀ x ∈ p0, x.block < W.heap.size := by obtain ⟨m, hm⟩ := k0; exact DataW.trod_lt m _ _ _ hm
  have k1 := h1
  have lt1 : ∀ x ∈ p1, x.block < W.heap.size := by obtain ⟨m, hm⟩ := k1; exact DataW.trod_lt m _ _ _ hm
  obtain ⟨ta0, tc0, tl0, tr0, te0, tm0, rfl, tv0⟩ := open_table (hval 0 57 v0 rfl rfl) h0
  obtain ⟨ta1, tc1, tl1, tr1, te1, tm1, rfl, tv1⟩ := open_table (hval 1 57 v1 rfl rfl) h1
  clear hA0 hval0
  refine (innerSame_any ta0 ta1 tr0 tr1 tl0 tl1 tm0 tm1 tc0 tc1 te0 te1 tv0.1.2.1 tv1.1.2.1 tv0.2.2.1 tv1.2.2.1).mono fun e W' ⟨he, bel⟩ => ?_
  subst he
  exact ⟨_, rfl, _, _, _, [], _, [], hW', trodAll_mk1 (shut_bool Try.underlying4 _), (trodAll_cons_mk (Below.trod laidOut (by kernel_rfl) (of_decide_eq_true (by kernel_rfl)) k0 bel lt0) (trodAll_cons_mk (Below.trod laidOut (by kernel_rfl) (of_decide_eq_true (by kernel_rfl)) k1 bel lt1) trodAll_mk0)), rfl, Below.frame bel _, fun h => by cases h⟩

theorem innerSame_holds : Rows.InnerSameSaid :=
  OpenClaim.holds_of_wide 8 Try.f8 rfl rfl rfl rfl rfl rfl rfl ⟨rfl, rfl, rfl, rfl, rfl⟩ rfl rfl rfl rfl rfl (by kernel_rfl) Try.func8 (by kernel_rfl)
    (of_decide_eq_true (by kernel_rfl)) (by unfold Func.isWrapper; first | (rw [if_pos (by decide +kernel)]; kernel_rfl) | (rw [if_neg (by decide +kernel)]; exact ⟨rfl, rfl⟩))
    (fun os started H enc _ => innerSame_lifted os started H enc)
#print axioms innerSame_holds
end Go.Proofs.Ytifbmapianddcaa
