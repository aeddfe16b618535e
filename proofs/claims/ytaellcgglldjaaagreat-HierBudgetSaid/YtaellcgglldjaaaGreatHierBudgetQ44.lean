/- Part of a proof: LawHB ArgF ArgH. -/
import Derived.Test.YtaellcgglldjaaaGreatHierBudgetQ43
import Derived.Test.YtaellcgglldjaaaGreatHierBudgetQ02
import Derived.ProofKit
import Derived.OpenShut
import Derived.ShutString
import Derived.ChangeOld
import Derived.Test.YtaellcgglldjaaaGreatHierBudgetQ04
import Derived.Deep.Slices
import Derived.Test.YtaellcgglldjaaaGreatHierBudgetQ01
set_option linter.all false
set_option linter.unusedVariables false
set_option linter.unusedSimpArgs false
namespace Go.Proofs.YtaellcgglldjaaaGreat
open Go.RowKit
set_option maxRecDepth 100000 in
set_option maxHeartbeats 1000000 in
theorem hb_no {w : World} (W H : Int) (a : Option Addr) (n c : Nat) (s fx fy tx ty b : Int) (hm : (decide (n ≤ 150) && decide (newE W H n s = 0)) = false) :
  Calls Tryz.prog 6 #[.agg #[.int .i64 W, .int .i64 H, .slice a n c], .agg #[.int .i64 s, .int .i64 fx, .int .i64 fy, .int .i64 tx, .int .i64 ty, .int .i64 b]] w fun e w' => e = .returned (.bool true) ∧ Ext w w' := by
 have HM := hide (fun (w' : World) => may15_any W H a n c s fx fy tx ty b w')
 rw [hm] at HM
 clear hm
 go_enter Tryz.func6, Tryz.ntmps6
 go_upto_region 1 with (fail)
 obtain ⟨w1, hw1⟩ : ∃ z, z = (w.alloc (.cells #[.int .i64 W, .int .i64 H, .slice a n c] 26)).alloc (.cells #[.int .i64 s, .int .i64 fx, .int .i64 fy, .int .i64 tx, .int .i64 ty, .int .i64 b] 30) := ⟨_, rfl⟩
 have X1 := hide (show Ext w w1 by rw [hw1]; exact ((Ext.refl _).alloc _).alloc _)
 have F1 := hide (show Blk w1 w.heap.size 26 #[.int .i64 W, .int .i64 H, .slice a n c] by rw [hw1]; exact (Blk.new_ rfl).over)
 have Q1 := hide (show Blk w1 (w.heap.size + 1) 30 #[.int .i64 s, .int .i64 fx, .int .i64 fy, .int .i64 tx, .int .i64 ty, .int .i64 b] by rw [hw1]; exact Blk.new_ (by simp))
 rw [← hw1]
 obtain ⟨fb, hfb⟩ : ∃ z, w.heap.size = z := ⟨_, rfl⟩
 rw [hfb] at F1 Q1 ⊢
 clear hw1 hfb
 have q0 := Q1.out.at 0 rfl; have q1 := Q1.out.at 1 rfl; have q2 := Q1.out.at 2 rfl; have q3 := Q1.out.at 3 rfl; have q4 := Q1.out.at 4 rfl; have q5 := Q1.out.at 5 rfl; have qz := Q1.out.lt
 go_wp2_with fail
 refine (find_none fx fy tx ty b _).mono ?_
 rintro e w2 ⟨rfl, x2⟩
 have X2 := hide (X1.out.trans x2)
 have F2 := hide (F1.out.ext x2)
 have Q2 := hide (Q1.out.ext x2)
 clear x2 q0 q1 q2 q3 q4 q5 qz F1 Q1 X1
 have q0 := Q2.out.at 0 rfl; have q1 := Q2.out.at 1 rfl; have q2 := Q2.out.at 2 rfl; have q3 := Q2.out.at 3 rfl; have q4 := Q2.out.at 4 rfl; have q5 := Q2.out.at 5 rfl; have qz := Q2.out.lt
 go_wp2_with fail
 refine (nodes_none fx fy tx ty _).mono ?_
 rintro e w3 ⟨rfl, x3⟩
 have Z3 := hide (show Blk w3 w2.heap.size 40 #[.slice none 0 0, .int .u64 0, .int .i64 0] from (Blk.new_ rfl).ext x3)
 have X23 := hide (((Ext.refl w2).alloc (.cells #[.slice none 0 0, .int .u64 0, .int .i64 0] 40)).trans x3)
 have X3 := hide (X2.out.trans X23.out)
 have F3 := hide (F2.out.ext X23.out)
 have Q3 := hide (Q2.out.ext X23.out)
 clear x3 q0 q1 q2 q3 q4 q5 qz F2 Q2 X2 X23
 have q0 := Q3.out.at 0 rfl; have q1 := Q3.out.at 1 rfl; have q2 := Q3.out.at 2 rfl; have q3 := Q3.out.at 3 rfl; have q4 := Q3.out.at 4 rfl; have q5 := Q3.out.at 5 rfl; have qz := Q3.out.lt
 go_wp2_with fail
 refine (legs_none fx fy tx ty tx ty _).mono ?_
 rintro e w4 ⟨rfl, x4⟩
 have X4 := hide (X3.out.trans x4)
 have Z4 := hide (Z3.out.ext x4)
 have F4 := hide (F3.out.ext x4)
 have Q4 := hide (Q3.out.ext x4)
 clear x4 q0 q1 q2 q3 q4 q5 qz F3 Q3 X3 Z3
 have q0 := Q4.out.at 0 rfl; have q1 := Q4.out.at 1 rfl; have q2 := Q4.out.at 2 rfl; have q3 := Q4.out.at 3 rfl; have q4 := Q4.out.at 4 rfl; have q5 := Q4.out.at 5 rfl; have qz := Q4.out.lt
 have z0 := Z4.out.at 0 rfl; have z1 := Z4.out.at 1 rfl; have z2 := Z4.out.at 2 rfl; have zz := Z4.out.lt
 have f0 := F4.out.at 0 rfl; have f1 := F4.out.at 1 rfl; have f2 := F4.out.at 2 rfl; have fz := F4.out.lt
 go_wp2_with fail
 refine (HM.out _).mono ?_
 rintro e w5 ⟨rfl, x5⟩
 have X5 := hide (X4.out.trans x5)
 have F5 := hide (F4.out.ext x5)
 have Q5 := hide (Q4.out.ext x5)
 clear x5 q0 q1 q2 q3 q4 q5 qz f0 f1 f2 fz z0 z1 z2 zz F4 Q4 X4 Z4
 go_wp2_with fail
 refine (awake15_any _).mono ?_
 rintro e w6 ⟨rfl, x6⟩
 have X6 := hide (X5.out.trans x6)
 clear x6
 go_wp2_with fail
 go_ret
 exact ⟨rfl, X6.out⟩
set_option maxRecDepth 100000 in
set_option maxHeartbeats 2000000 in
theorem hb_yes {w : World} {W H : Int} {a : Option Addr} {l : List Int} (c : Nat) {s : Int} (fx fy tx ty b : Int) (g : Good W H s l) (hl : l.length ≤ 150) (hr : Row16 w a l) (he : newE W H l.length s = 0) :
  Calls Tryz.prog 6 #[.agg #[.int .i64 W, .int .i64 H, .slice a l.length c], .agg #[.int .i64 s, .int .i64 fx, .int .i64 fy, .int .i64 tx, .int .i64 ty, .int .i64 b]] w fun e w' => e = .returned (.bool true) ∧ Ext w w' := by
 have HM := hide (fun (w' : World) => may15_any W H a l.length c s fx fy tx ty b w')
 rw [he, show decide (l.length ≤ 150) = true by simpa using hl] at HM
 simp only [decide_true, Bool.true_and] at HM
 have HNW := hide (fun (w' : World) (x : Ext w w') => rdNew_yes (w := w') c g (hr.ext x) (by have := gates_few g hl; omega))
 have HFI := hide (fun (p : Spot) (R : Nat → Prop) (w' : World) (h : WorldAt w' p R W H s l) (b : Int) => hrFind_uni h g hl (gates_few g hl) (fx, fy) (tx, ty) b)
 simp only at HFI
 obtain ⟨n, hn⟩ : ∃ z, l.length = z := ⟨_, rfl⟩
 have HN := hide hn
 rw [hn] at HNW HM
 rw [hn]
 clear g hl hr he hn
 go_enter Tryz.func6, Tryz.ntmps6
 go_upto_region 1 with (fail)
 obtain ⟨w1, hw1⟩ : ∃ z, z = (w.alloc (.cells #[.int .i64 W, .int .i64 H, .slice a n c] 26)).alloc (.cells #[.int .i64 s, .int .i64 fx, .int .i64 fy, .int .i64 tx, .int .i64 ty, .int .i64 b] 30) := ⟨_, rfl⟩
 have X1 := hide (show Ext w w1 by rw [hw1]; exact ((Ext.refl _).alloc _).alloc _)
 have F1 := hide (show Blk w1 w.heap.size 26 #[.int .i64 W, .int .i64 H, .slice a n c] by rw [hw1]; exact (Blk.new_ rfl).over)
 have Q1 := hide (show Blk w1 (w.heap.size + 1) 30 #[.int .i64 s, .int .i64 fx, .int .i64 fy, .int .i64 tx, .int .i64 ty, .int .i64 b] by rw [hw1]; exact Blk.new_ (by simp))
 rw [← hw1]
 obtain ⟨fb, hfb⟩ : ∃ z, w.heap.size = z := ⟨_, rfl⟩
 rw [hfb] at F1 Q1 ⊢
 clear hw1 hfb
 have q0 := Q1.out.at 0 rfl; have q1 := Q1.out.at 1 rfl; have q2 := Q1.out.at 2 rfl; have q3 := Q1.out.at 3 rfl; have q4 := Q1.out.at 4 rfl; have q5 := Q1.out.at 5 rfl; have qz := Q1.out.lt
 go_wp2_with fail
 refine (find_none fx fy tx ty b _).mono ?_
 rintro e w2 ⟨rfl, x2⟩
 have X2 := hide (X1.out.trans x2)
 have F2 := hide (F1.out.ext x2)
 have Q2 := hide (Q1.out.ext x2)
 clear x2 q0 q1 q2 q3 q4 q5 qz F1 Q1 X1
 have q0 := Q2.out.at 0 rfl; have q1 := Q2.out.at 1 rfl; have q2 := Q2.out.at 2 rfl; have q3 := Q2.out.at 3 rfl; have q4 := Q2.out.at 4 rfl; have q5 := Q2.out.at 5 rfl; have qz := Q2.out.lt
 go_wp2_with fail
 refine (nodes_none fx fy tx ty _).mono ?_
 rintro e w3 ⟨rfl, x3⟩
 have Z3 := hide (show Blk w3 w2.heap.size 40 #[.slice none 0 0, .int .u64 0, .int .i64 0] from (Blk.new_ rfl).ext x3)
 have X23 := hide (((Ext.refl w2).alloc (.cells #[.slice none 0 0, .int .u64 0, .int .i64 0] 40)).trans x3)
 have X3 := hide (X2.out.trans X23.out)
 have F3 := hide (F2.out.ext X23.out)
 have Q3 := hide (Q2.out.ext X23.out)
 clear x3 q0 q1 q2 q3 q4 q5 qz F2 Q2 X2 X23
 have q0 := Q3.out.at 0 rfl; have q1 := Q3.out.at 1 rfl; have q2 := Q3.out.at 2 rfl; have q3 := Q3.out.at 3 rfl; have q4 := Q3.out.at 4 rfl; have q5 := Q3.out.at 5 rfl; have qz := Q3.out.lt
 go_wp2_with fail
 refine (legs_none fx fy tx ty tx ty _).mono ?_
 rintro e w4 ⟨rfl, x4⟩
 have X4 := hide (X3.out.trans x4)
 have Z4 := hide (Z3.out.ext x4)
 have F4 := hide (F3.out.ext x4)
 have Q4 := hide (Q3.out.ext x4)
 clear x4 q0 q1 q2 q3 q4 q5 qz F3 Q3 X3 Z3
 have q0 := Q4.out.at 0 rfl; have q1 := Q4.out.at 1 rfl; have q2 := Q4.out.at 2 rfl; have q3 := Q4.out.at 3 rfl; have q4 := Q4.out.at 4 rfl; have q5 := Q4.out.at 5 rfl; have qz := Q4.out.lt
 have z0 := Z4.out.at 0 rfl; have z1 := Z4.out.at 1 rfl; have z2 := Z4.out.at 2 rfl; have zz := Z4.out.lt
 have f0 := F4.out.at 0 rfl; have f1 := F4.out.at 1 rfl; have f2 := F4.out.at 2 rfl; have fz := F4.out.lt
 go_wp2_with fail
 refine (HM.out _).mono ?_
 rintro e w5 ⟨rfl, x5⟩
 have X5 := hide (X4.out.trans x5)
 have F5 := hide (F4.out.ext x5)
 have Q5 := hide (Q4.out.ext x5)
 clear x5 q0 q1 q2 q3 q4 q5 qz f0 f1 f2 fz z0 z1 z2 zz F4 Q4 X4 Z4
 have q0 := Q5.out.at 0 rfl; have q1 := Q5.out.at 1 rfl; have q2 := Q5.out.at 2 rfl; have q3 := Q5.out.at 3 rfl; have q4 := Q5.out.at 4 rfl; have q5 := Q5.out.at 5 rfl; have qz := Q5.out.lt
 have f0 := F5.out.at 0 rfl; have f1 := F5.out.at 1 rfl; have f2 := F5.out.at 2 rfl; have fz := F5.out.lt
 go_wp2_with fail
 refine (HNW.out _ X5.out).mono ?_
 rintro e w6 ⟨p, R, rfl, hw, x6, _, _⟩
 have X6 := hide (X5.out.trans x6)
 have F6 := hide (F5.out.ext x6)
 have Q6 := hide (Q5.out.ext x6)
 have HFB := hide (fun (w' : World) (x : Ext w6 w') (b : Int) => HFI.out p R w' (hw.ext x) b)
 obtain ⟨pb, hpb⟩ : ∃ z, p.b = z := ⟨_, rfl⟩
 rw [hpb] at HFB ⊢
 clear hw x6 hpb q0 q1 q2 q3 q4 q5 qz f0 f1 f2 fz F5 Q5 X5 HFI
 have q0 := Q6.out.at 0 rfl; have q1 := Q6.out.at 1 rfl; have q2 := Q6.out.at 2 rfl; have q3 := Q6.out.at 3 rfl; have q4 := Q6.out.at 4 rfl; have q5 := Q6.out.at 5 rfl; have qz := Q6.out.lt
 have f0 := F6.out.at 0 rfl; have f1 := F6.out.at 1 rfl; have f2 := F6.out.at 2 rfl; have fz := F6.out.lt
 go_wp2_with fail
 refine (HFB.out _ (Ext.refl _) _).mono ?_
 rintro e w7 ⟨x7, p1, c1, k1, e1, v1, hs1, rfl, ho1⟩
 obtain ⟨va, vc, rfl⟩ := ho1.slice
 have S1 := hide hs1
 have O1 := hide ho1
 have X67 := hide x7
 have X7 := hide (X6.out.trans x7)
 have F7 := hide (F6.out.ext x7)
 have Q7 := hide (Q6.out.ext x7)
 have HL1 := hide (hs_len hs1)
 obtain ⟨m1, hm1⟩ : ∃ z, p1.length = z := ⟨_, rfl⟩
 have HM1 := hide hm1
 rw [hm1] at O1 ⊢
 clear hs1 ho1 x7 hm1 q0 q1 q2 q3 q4 q5 qz f0 f1 f2 fz F6 Q6 X6
 have q0 := Q7.out.at 0 rfl; have q1 := Q7.out.at 1 rfl; have q2 := Q7.out.at 2 rfl; have q3 := Q7.out.at 3 rfl; have q4 := Q7.out.at 4 rfl; have q5 := Q7.out.at 5 rfl; have qz := Q7.out.lt
 go_wp2_with fail
 refine (HFB.out _ (X67.out.trans ((Ext.refl _).alloc _)) _).mono ?_
 rintro e w8 ⟨x8, p2, c2, k2, e2, v2, hs2, rfl, ho2⟩
 obtain ⟨ua, uc, rfl⟩ := ho2.slice
 have R8 := hide (show Blk w8 w7.heap.size 40 #[.slice va m1 vc, .int .u64 c1, .int .i64 k1] from (Blk.new_ rfl).ext x8)
 have X78 := hide (((Ext.refl w7).alloc (.cells #[.slice va m1 vc, .int .u64 c1, .int .i64 k1] 40)).trans x8)
 have X8 := hide (X7.out.trans X78.out)
 have F8 := hide (F7.out.ext X78.out)
 have Q8 := hide (Q7.out.ext X78.out)
 have O8 := hide (O1.out.ext X78.out)
 have P8 := hide ho2
 have HL2 := hide (hs_len hs2)
 have hs1 := S1.out
 rw [← HN.out] at hs1
 have S2 := hide (hs_budget hs1 hs2)
 clear hs1
 clear hs2 ho2 x8 q0 q1 q2 q3 q4 q5 qz F7 Q7 X7 X67 X78 HFB S1 O1
 have q0 := Q8.out.at 0 rfl; have q1 := Q8.out.at 1 rfl; have q2 := Q8.out.at 2 rfl; have q3 := Q8.out.at 3 rfl; have q4 := Q8.out.at 4 rfl; have q5 := Q8.out.at 5 rfl; have qz := Q8.out.lt
 have r0 := R8.out.at 0 rfl; have r1 := R8.out.at 1 rfl; have r2 := R8.out.at 2 rfl; have rz := R8.out.lt
 rcases S2.out with ⟨rfl, rfl, rfl, rfl⟩ | ⟨h1, h2, rfl, rfl, rfl⟩ | ⟨h1, h2, h3, rfl, rfl, rfl, rfl⟩ | ⟨h1, h2, h3, rfl, rfl, rfl, rfl⟩
 ·simp only [List.length_nil]
  clear S2
  go_wp2_with (go_at_call 10; refine (awake15_any _).mono ?_; rintro e w9 ⟨rfl, x9⟩; have X9 := hide (X8.out.trans (((Ext.refl _).alloc _).trans x9)); clear x9)
  go_ret
  exact ⟨rfl, X9.out⟩
 ·have f1 : (e1 == 10) = false := by simpa using h1
  have f1' : (e1 != 10) = true := by simpa using h1
  have f2 : decide (b < 0) = true := by simpa using h2
  simp only [List.length_nil]
  clear h1 h2 S2
  go_wp2_with (go_at_call 10; refine (awake15_any _).mono ?_; rintro e w9 ⟨rfl, x9⟩; have X9 := hide (X8.out.trans (((Ext.refl _).alloc _).trans x9)); clear x9)
  go_ret
  exact ⟨rfl, X9.out⟩
 ·have f1 : (e1 == 10) = false := by simpa using h1
  have f2 : decide (k2 < 0) = false := by simpa using h2
  have f3 : decide (k2 < k1) = true := by simpa using h3
  have f4 : (k2 == k2) = true := by simp
  simp only [List.length_nil]
  clear h1 h2 h3 S2
  go_wp2_with (go_at_call 10; refine (awake15_any _).mono ?_; rintro e w9 ⟨rfl, x9⟩; have X9 := hide (X8.out.trans (((Ext.refl _).alloc _).trans x9)); clear x9)
  go_ret
  exact ⟨rfl, X9.out⟩
 ·have f1 : (e2 == 10) = false := by simpa using h1
  have f2 : decide (b < 0) = false := by simpa using h2
  have f3 : decide (b < k2) = false := by simpa using h3
  have f4 : (k2 == k2) = true := by simp
  have f5 : (e2 == e2) = true := by simp
  have f6 : (c2 == c2) = true := by simp
  have HCE := hide (fun (w' : World) (x : Ext w8 w') => cells15_any ua va p2 p2 uc vc w' (by have := HL2.out; omega) (Reads.rowC (P8.out.ext x).reads).2 (Reads.rowC (n := m1) (c := vc) (O8.out.ext x).reads).2)
  rw [HM1.out] at HCE
  simp only [decide_true] at HCE
  have hm2 := HM1.out
  rw [hm2]
  clear hm2 h1 h2 h3 S2
  go_wp2_with fail
  refine (HCE.out _ ((Ext.refl _).alloc _)).mono ?_
  rintro e wq ⟨rfl, xq⟩
  have T9 := hide (show Blk wq w8.heap.size 40 #[.slice ua m1 uc, .int .u64 c2, .int .i64 k2] from (Blk.new_ rfl).ext xq)
  have X89 := hide (((Ext.refl w8).alloc (.cells #[.slice ua m1 uc, .int .u64 c2, .int .i64 k2] 40)).trans xq)
  have RQ := hide (R8.out.ext X89.out)
  replace X8 := hide (X8.out.trans X89.out)
  clear xq X89 r0 r1 r2 rz q0 q1 q2 q3 q4 q5 qz
  have t0 := T9.out.at 0 rfl; have t1 := T9.out.at 1 rfl; have t2 := T9.out.at 2 rfl; have tz := T9.out.lt
  have r0 := RQ.out.at 0 rfl; have r1 := RQ.out.at 1 rfl; have r2 := RQ.out.at 2 rfl; have rz := RQ.out.lt
  go_wp2_with (go_at_call 10; refine (awake15_any _).mono ?_; rintro e w9 ⟨rfl, x9⟩; have X9 := hide (X8.out.trans x9); clear x9)
  go_ret
  exact ⟨rfl, X9.out⟩
theorem hierBudget_any {w : World} (W H : Int) (a : Option Addr) (l : List Int) (c : Nat) (s fx fy tx ty b : Int) (hr : Row16 w a l) (hu : U16s l) :
  Calls Tryz.prog 6 #[.agg #[.int .i64 W, .int .i64 H, .slice a l.length c], .agg #[.int .i64 s, .int .i64 fx, .int .i64 fy, .int .i64 tx, .int .i64 ty, .int .i64 b]] w fun e w' => e = .returned (.bool true) ∧ Ext w w' := by
 cases hm : (decide (l.length ≤ 150) && decide (newE W H l.length s = 0))
 ·exact hb_no W H a l.length c s fx fy tx ty b hm
 ·rw [Bool.and_eq_true, decide_eq_true_eq, decide_eq_true_eq] at hm
  exact hb_yes c fx fy tx ty b (new_good hu hm.2) hm.1 hr hm.2
end Go.Proofs.YtaellcgglldjaaaGreat

namespace Go.Proofs.YtaellcgglldjaaaGreat
open Go.RowKit Go.ChangeShapes Go.WideShapes Go.ChangeAt
section
variable {H : Type} {enc : TypeId × Value → H} {w : World} {r : Reach} {base b0 : Nat} {spare : Nat → Bool} {held : Bool}
theorem InI_wf {n : Int} (h : (Lit.int .i64 n).wf = true) : InI n := by
 have hmin : IntKind.i64.min = -9223372036854775808 := rfl
 have hmax : IntKind.i64.max = 9223372036854775807 := rfl
 simp only [Lit.wf, Bool.and_eq_true, decide_eq_true_eq] at h
 unfold InI; omega
theorem one_int {fuel : Nat} {v : Value} {x : DataW H × List MemPlace} (h : DataW.trod enc Tryz.prog w base spare held fuel 3 [v] = some x) : ∃ n, v = .int .i64 n ∧ InI n := by
 obtain ⟨n, hc, _, hw⟩ := DataW.trod_int Tryz.underlying3 h
 simp at hc
 exact ⟨n, hc, InI_wf hw⟩
theorem trod_two {t : TypeId} {f0 f1 : Field} {fuel : Nat} {c0 c1 : Value} {x : DataW H × List MemPlace} (ht : Tryz.prog.underlying t = some (.struct #[f0, f1])) (e0 : f0.type = 3 ∧ f0.offset = 0) (e1 : f1.type = 3 ∧ f1.offset = 1) (h : DataW.trod enc Tryz.prog w base spare held fuel t [c0, c1] = some x) :
  ∃ a b, c0 = .int .i64 a ∧ c1 = .int .i64 b ∧ InI a ∧ InI b := by
 obtain ⟨xs, n, _, _, _, hlen, hf⟩ := DataW.trod_struct ht h
 have hc : Tryz.prog.cellsOf 3 = 1 := by kernel_rfl
 match xs, hlen with
 | [y0, y1], _ =>
  have h0 := hf 0 f0 rfl
  have h1 := hf 1 f1 rfl
  rw [e0.1, e0.2, hc] at h0
  rw [e1.1, e1.2, hc] at h1
  obtain ⟨a, rfl, ha⟩ := one_int h0
  obtain ⟨b, rfl, hb⟩ := one_int h1
  exact ⟨a, b, rfl, rfl, ha, hb⟩
end
theorem own : ownKnob Tryz.prog.godebug = none := by kernel_rfl
theorem laidOut : laidOutB Tryz.prog = true := by kernel_rfl
section
variable {H : Type} {enc : TypeId × Value → H} {w : World} {r : Reach} {base b0 : Nat} {spare : Nat → Bool} {held : Bool}
def FieldV (w : World) (W Hh : Int) (a : Option Addr) (l : List Int) : Prop := InI W ∧ InI Hh ∧ (l.length : Int) ≤ 9223372036854775807 ∧ Row16 w a l ∧ U16s l
set_option maxRecDepth 100000 in
theorem cells_field : Tryz.prog.cellsOf 26 = 3 := by kernel_rfl
set_option maxRecDepth 100000 in
theorem cells_u16 : Tryz.prog.cellsOf 84 = 1 := by kernel_rfl
theorem row16_of {a : Addr} {len : Nat} {zs : List Int} (hlen : len ≤ zs.length) (hc : ∀ i, i < zs.length → w.cell? (a.add i) = some (.int .u16 (zs.getD i 0))) (hw : ∀ n ∈ zs, (Lit.int .u16 n).wf = true) : (zs.take len).length = len ∧ Row16 w (some a) (zs.take len) ∧ U16s (zs.take len) := by
 have hl : (zs.take len).length = len := by rw [List.length_take]; omega
 refine ⟨hl, fun h0 => ?_, fun x hx => ?_⟩
 ·obtain ⟨b, off, spot⟩ := a
  have z0 := hc 0 (by omega)
  have hspot : spot = none := by simpa [Addr.add] using World.cell?_spot z0
  subst hspot
  have z0' : w.cell? ⟨b, off, none⟩ = some (.int .u16 (zs.getD 0 0)) := by simpa [Addr.add] using z0
  refine ⟨b, off, rfl, World.block_lt_of_cell? w _ z0', fun k hk => ?_⟩
  have := hc k (by omega)
  rw [Addr.add_lit] at this
  rw [this]
  have hk' : k < zs.length := by omega
  simp [List.getD_eq_getElem?_getD, hk']
 ·have hmem : x ∈ zs := List.mem_of_mem_take hx
  have h := hw x hmem
  have hmin : IntKind.u16.min = 0 := rfl
  have hmax : IntKind.u16.max = 65535 := rfl
  simp only [Lit.wf, Bool.and_eq_true, decide_eq_true_eq] at h
  omega
set_option maxRecDepth 100000 in
theorem open_field {v : Value} {d : DataW H} {p : List MemPlace} (hv : Value.okWide Tryz.prog w r b0 26 v) (h : DataW.Trod enc Tryz.prog w base spare held 26 v d p) :
  ∃ W Hh a l c, v = .agg #[.int .i64 W, .int .i64 Hh, .slice a (List.length l) c] ∧ FieldV w W Hh a l := by
 obtain ⟨cs, rfl, hsz⟩ := okWide_struct Tryz.underlying26 hv
 obtain ⟨l⟩ := cs
 rw [cells_field] at hsz
 match l, hsz with
 | [c0, c1, c2], _ =>
  obtain ⟨fuel, hf⟩ := h
  obtain ⟨xs, n, _, _, _, hlen, hf⟩ := DataW.trod_struct Tryz.underlying26 hf
  match xs, hlen with
  | [y0, y1], _ =>
   have h0 := hf 0 _ rfl
   have h1 := hf 1 _ rfl
   obtain ⟨a, b, rfl, rfl, ha, hb⟩ := trod_two (c0 := c0) (c1 := c1) Tryz.underlying23 ⟨rfl, rfl⟩ ⟨rfl, rfl⟩ h0
   have h1' : DataW.trod enc Tryz.prog w base spare held n 24 [c2] = some y1 := h1
   rcases open_ints Tryz.underlying24 Tryz.underlying84 cells_u16 h1' with ⟨hc, _⟩ | ⟨ad, len, cap, zs, hc, _, hl, hm, hz, _, hcell, hwz⟩
   ·simp at hc
    subst hc
    exact ⟨a, b, none, [], 0, rfl, ha, hb, by simp, fun h => by simp at h, fun x hx => by simp at hx⟩
   ·simp at hc
    subst hc
    have hle : len ≤ zs.length := by rw [hz]; split <;> omega
    obtain ⟨q1, q2, q3⟩ := row16_of hle hcell hwz
    refine ⟨a, b, some ad, zs.take len, cap, by rw [q1], ha, hb, ?_, q2, q3⟩
    rw [q1]; unfold maxLen at hm; omega
end
section
variable {H : Type} {enc : TypeId × Value → H} {P : Program} {w : World} {base : Nat} {spare : Nat → Bool} {held : Bool}
end
section
variable {H : Type} {enc : TypeId × Value → H} {w : World} {r : Reach} {base b0 : Nat} {spare : Nat → Bool} {held : Bool}
end
section
variable {H : Type} {enc : TypeId × Value → H} {w : World} {r : Reach} {base b0 : Nat} {spare : Nat → Bool} {held : Bool}
end
end Go.Proofs.YtaellcgglldjaaaGreat

namespace Go.Proofs.YtaellcgglldjaaaGreat
open Go.RowKit Go.ChangeShapes Go.WideShapes Go.ChangeAt
section
variable {H : Type} {enc : TypeId × Value → H} {w : World} {r : Reach} {base b0 : Nat} {spare : Nat → Bool} {held : Bool}
set_option maxRecDepth 100000 in
theorem cells_ask15 : Tryz.prog.cellsOf 30 = 6 := by kernel_rfl
set_option maxRecDepth 100000 in
theorem open_ask15 {v : Value} {d : DataW H} {p : List MemPlace} (hv : Value.okWide Tryz.prog w r b0 30 v) (h : DataW.Trod enc Tryz.prog w base spare held 30 v d p) : ∃ s x y z u b, v = .agg #[.int .i64 s, .int .i64 x, .int .i64 y, .int .i64 z, .int .i64 u, .int .i64 b] ∧ InI s ∧ InI x ∧ InI y ∧ InI z ∧ InI u ∧ InI b := by
 obtain ⟨cs, rfl, hsz⟩ := okWide_struct Tryz.underlying30 hv
 obtain ⟨l⟩ := cs
 rw [cells_ask15] at hsz
 match l, hsz with
 | [c0, c1, c2, c3, c4, c5], _ =>
  obtain ⟨fuel, hf⟩ := h
  obtain ⟨xs, n, _, _, _, hlen, hf⟩ := DataW.trod_struct Tryz.underlying30 hf
  match xs, hlen with
  | [y0, y1, y2, y3], _ =>
   obtain ⟨s, rfl, hs⟩ := one_int (v := c0) (hf 0 _ rfl)
   obtain ⟨a, b, rfl, rfl, ha, hb⟩ := trod_two (c0 := c1) (c1 := c2) Tryz.underlying28 ⟨rfl, rfl⟩ ⟨rfl, rfl⟩ (hf 1 _ rfl)
   obtain ⟨c, e, rfl, rfl, hc, he⟩ := trod_two (c0 := c3) (c1 := c4) Tryz.underlying28 ⟨rfl, rfl⟩ ⟨rfl, rfl⟩ (hf 2 _ rfl)
   obtain ⟨g, rfl, hg⟩ := one_int (v := c5) (hf 3 _ rfl)
   exact ⟨s, a, b, c, e, g, rfl, hs, ha, hb, hc, he, hg⟩
end
end Go.Proofs.YtaellcgglldjaaaGreat

