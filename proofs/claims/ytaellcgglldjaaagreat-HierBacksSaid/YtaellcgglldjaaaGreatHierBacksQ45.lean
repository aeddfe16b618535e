/- Part of a proof: LawHK. -/
import Derived.Test.YtaellcgglldjaaaGreatHierBacksQ43
import Derived.Test.YtaellcgglldjaaaGreatHierBacksQ44
import Derived.Test.YtaellcgglldjaaaGreatHierBacksQ04
set_option linter.all false
set_option linter.unusedVariables false
set_option linter.unusedSimpArgs false
namespace Go.Proofs.YtaellcgglldjaaaGreat
open Go.RowKit
theorem legs_back {w : World} {p : Spot} {R : Nat → Prop} {W H s : Int} {l : List Int} (h : WorldAt w p R W H s l) (g : Good W H s l) (hl : l.length ≤ 150) (hgl : (gatesA W H s l).length ≤ 45000) (f t a : Cell) (hf : inB W H f.1 f.2 = true) (ht : inB W H t.1 t.2 = true) (ha : a ∈ nodesL W H (gatesA W H s l) f t) :
  Calls Tryz.prog 17 #[.pointer (some ⟨p.b, 0, none⟩), .agg #[.int .i64 f.1, .int .i64 f.2], .agg #[.int .i64 t.1, .int .i64 t.2], .agg #[.int .i64 a.1, .int .i64 a.2]] w fun e w' => ∃ va vc, e = .returned (.tuple #[.slice va (legsL W H s l (gatesA W H s l) f t a).length vc, .int .i64 0]) ∧ Ext w w' ∧ Own (legA a) w' w.heap.size 56 (.slice va (legsL W H s l (gatesA W H s l) f t a).length vc) (legsL W H s l (gatesA W H s l) f t a) := by
 refine (hrLegs_any h g hl hgl f t a).mono ?_
 rintro e w' ⟨x, ⟨h1, rfl⟩ | ⟨h1, h2, rfl⟩ | ⟨h1, h2, v, rfl, o⟩⟩
 ·exact absurd ⟨hf, ht, node_in g ha⟩ h1
 ·exact absurd ha h2
 ·obtain ⟨va, vc, rfl⟩ := o.slice
  exact ⟨va, vc, rfl, x, o⟩
theorem legsE_two {w w' : World} {W H s : Int} {l : List Int} {f t a : Cell} {e : Ending} (h : LegsE w W H s l f t a e w') :
  (∃ er : Int, (er != 0) = true ∧ e = .returned (.tuple #[.slice none 0 0, .int .i64 er]) ∧ Ext w w') ∨
  ((inB W H f.1 f.2 = true ∧ inB W H t.1 t.2 = true ∧ inB W H a.1 a.2 = true) ∧ a ∈ nodesL W H (gatesA W H s l) f t ∧ ∃ va vc, e = .returned (.tuple #[.slice va (legsL W H s l (gatesA W H s l) f t a).length vc, .int .i64 0]) ∧ Ext w w' ∧ Own (legA a) w' w.heap.size 56 (.slice va (legsL W H s l (gatesA W H s l) f t a).length vc) (legsL W H s l (gatesA W H s l) f t a)) := by
 obtain ⟨x, ⟨h1, rfl⟩ | ⟨h1, h2, rfl⟩ | ⟨h1, h2, v, rfl, o⟩⟩ := h
 ·exact .inl ⟨10, rfl, rfl, x⟩
 ·exact .inl ⟨14, rfl, rfl, x⟩
 ·obtain ⟨va, vc, rfl⟩ := o.slice
  exact .inr ⟨h1, h2, va, vc, rfl, x, o⟩
theorem count_next {M : List (Cell × Int)} {a : Cell} {j : Nat} {p : Cell × Int} (h : M[j]? = some p) : (M.take (j + 1)).countP (fun p => decide (p.1 = a)) = (M.take j).countP (fun p => decide (p.1 = a)) + if p.1 = a then 1 else 0 := by
 rw [List.take_add_one, h, List.countP_append]
 by_cases e : p.1 = a <;> simp [e]
theorem wrap_small {x y : Int} (h1 : 0 < x) (h2 : x ≤ 10000000) (h3 : 0 ≤ y) (h4 : y ≤ 65535) : IntKind.u64.wrap (x + y) = x + y := IntWalk.u64_in _ (by omega)
set_option maxRecDepth 100000 in
theorem hk_no {w : World} (W H : Int) (a : Option Addr) (n c : Nat) (s fx fy tx ty b ax ay : Int) (hm : (decide (n ≤ 150) && decide (newE W H n s = 0)) = false) :
  Calls Tryz.prog 4 #[.agg #[.int .i64 W, .int .i64 H, .slice a n c], .agg #[.int .i64 s, .int .i64 fx, .int .i64 fy, .int .i64 tx, .int .i64 ty, .int .i64 b], .agg #[.int .i64 ax, .int .i64 ay]] w fun e w' => e = .returned (.bool true) ∧ Ext w w' := by
 have HM := hide (fun (w' : World) => may15_any W H a n c s fx fy tx ty b w')
 rw [hm] at HM
 clear hm
 go_enter Tryz.func4, Tryz.ntmps4
 go_upto_region 1 with (fail)
 obtain ⟨w1, hw1⟩ : ∃ z, z = ((w.alloc (.cells #[.int .i64 W, .int .i64 H, .slice a n c] 26)).alloc (.cells #[.int .i64 s, .int .i64 fx, .int .i64 fy, .int .i64 tx, .int .i64 ty, .int .i64 b] 30)).alloc (.cells #[.int .i64 ax, .int .i64 ay] 28) := ⟨_, rfl⟩
 have X1 := hide (show Ext w w1 by rw [hw1]; exact (((Ext.refl _).alloc _).alloc _).alloc _)
 have F1 := hide (show Blk w1 w.heap.size 26 #[.int .i64 W, .int .i64 H, .slice a n c] by rw [hw1]; exact (Blk.new_ rfl).over.over)
 have Q1 := hide (show Blk w1 (w.heap.size + 1) 30 #[.int .i64 s, .int .i64 fx, .int .i64 fy, .int .i64 tx, .int .i64 ty, .int .i64 b] by rw [hw1]; exact (Blk.new_ (by simp)).over)
 have A1 := hide (show Blk w1 (w.heap.size + 1 + 1) 28 #[.int .i64 ax, .int .i64 ay] by rw [hw1]; exact Blk.new_ (by simp))
 rw [← hw1]
 obtain ⟨fb, hfb⟩ : ∃ z, w.heap.size = z := ⟨_, rfl⟩
 rw [hfb] at F1 Q1 A1 ⊢
 clear hw1 hfb
 have q0 := Q1.out.at 0 rfl; have q1 := Q1.out.at 1 rfl; have q2 := Q1.out.at 2 rfl; have q3 := Q1.out.at 3 rfl; have q4 := Q1.out.at 4 rfl; have q5 := Q1.out.at 5 rfl; have qz := Q1.out.lt
 have f0 := F1.out.at 0 rfl; have f1 := F1.out.at 1 rfl; have f2 := F1.out.at 2 rfl; have fz := F1.out.lt
 go_wp2_with fail
 refine (HM.out _).mono ?_
 rintro e w2 ⟨rfl, x2⟩
 have X2 := hide (X1.out.trans x2)
 clear x2
 go_wp2_with (go_at_call 10; refine (awake15_any _).mono ?_; rintro e wz ⟨rfl, xz⟩; have XZ := hide (X2.out.trans xz); clear xz)
 go_ret
 exact ⟨rfl, XZ.out⟩
set_option maxRecDepth 100000 in
set_option maxHeartbeats 4000000 in
theorem hk_yes {w : World} {W H : Int} {a : Option Addr} {l : List Int} (c : Nat) {s : Int} (fx fy tx ty b ax ay : Int) (g : Good W H s l) (hl : l.length ≤ 150) (hr : Row16 w a l) (he : newE W H l.length s = 0) :
  Calls Tryz.prog 4 #[.agg #[.int .i64 W, .int .i64 H, .slice a l.length c], .agg #[.int .i64 s, .int .i64 fx, .int .i64 fy, .int .i64 tx, .int .i64 ty, .int .i64 b], .agg #[.int .i64 ax, .int .i64 ay]] w fun e w' => e = .returned (.bool true) ∧ Ext w w' := by
 have HM := hide (fun (w' : World) => may15_any W H a l.length c s fx fy tx ty b w')
 rw [he, show decide (l.length ≤ 150) = true by simpa using hl] at HM
 simp only [decide_true, Bool.true_and] at HM
 have hgl := gates_few g hl
 obtain ⟨hmay, hlw⟩ := checkE_ok.1 g.ok
 have HNW := hide (fun (w' : World) (x : Ext w w') => rdNew_yes (w := w') c g (hr.ext x) (by omega))
 have HLE := hide (fun (p : Spot) (R : Nat → Prop) (w' : World) (h : WorldAt w' p R W H s l) => hrLegs_any h g hl hgl (fx, fy) (tx, ty) (ax, ay))
 have HPA := hide (fun (p : Spot) (R : Nat → Prop) (w' : World) (h : WorldAt w' p R W H s l) => (by obtain ⟨G, T, h1, _⟩ := h; exact rdParts_any h1 : Calls Tryz.prog 18 #[.pointer (some ⟨p.b, 0, none⟩)] w' fun e w'' => e = .returned (.agg #[.int .i64 W, .int .i64 H, .int .i64 s]) ∧ Ext w' w''))
 have HBK := hide (fun (hf : inB W H fx fy = true) (ht : inB W H tx ty = true) (p : Spot) (R : Nat → Prop) (w' : World) (h : WorldAt w' p R W H s l) (qx qy : Int) (hq : (qx, qy) ∈ nodesL W H (gatesA W H s l) (fx, fy) (tx, ty)) => legs_back h g hl hgl (fx, fy) (tx, ty) (qx, qy) hf ht hq)
 have HCO := hide (fun (w' : World) (x : Ext w w') (u v : Int) (h : inB W H u v = true) => (by have := inB_true.1 h; exact rCost_any W H a l c u v w' hmay hlw (hr.ext x) g.u16 (by omega) (by omega) (by omega) (by omega)))
 have HI := hide (fun (w' : World) (u v : Int) => r10In_any W H u v w' hmay)
 have HOF := hide (fun (w' : World) (u v : Int) (h : inB W H u v = true) => of_yes W H s u v w' g.right h)
 have HLL := hide (fun (q : Cell) => legsL_len g (f := (fx, fy)) (t := (tx, ty)) (a := q))
 have HLB := hide (fun (q : Cell) => show (legsL W H s l (gatesA W H s l) (fx, fy) (tx, ty) q).length ≤ 100000 by have := HLL.out q; omega)
 have HG := hide g
 have HL := hide hl
 have HCB := hide (costI_bd g.u16 W)
 simp only at HLE HBK
 obtain ⟨n, hn⟩ : ∃ z, l.length = z := ⟨_, rfl⟩
 rw [hn] at HM HNW HCO ⊢
 clear g hl hr he hgl hn HLL hmay hlw
 go_enter Tryz.func4, Tryz.ntmps4
 go_upto_region 1 with (fail)
 obtain ⟨w1, hw1⟩ : ∃ z, z = ((w.alloc (.cells #[.int .i64 W, .int .i64 H, .slice a n c] 26)).alloc (.cells #[.int .i64 s, .int .i64 fx, .int .i64 fy, .int .i64 tx, .int .i64 ty, .int .i64 b] 30)).alloc (.cells #[.int .i64 ax, .int .i64 ay] 28) := ⟨_, rfl⟩
 have X1 := hide (show Ext w w1 by rw [hw1]; exact (((Ext.refl _).alloc _).alloc _).alloc _)
 have F1 := hide (show Blk w1 w.heap.size 26 #[.int .i64 W, .int .i64 H, .slice a n c] by rw [hw1]; exact (Blk.new_ rfl).over.over)
 have Q1 := hide (show Blk w1 (w.heap.size + 1) 30 #[.int .i64 s, .int .i64 fx, .int .i64 fy, .int .i64 tx, .int .i64 ty, .int .i64 b] by rw [hw1]; exact (Blk.new_ (by simp)).over)
 have A1 := hide (show Blk w1 (w.heap.size + 1 + 1) 28 #[.int .i64 ax, .int .i64 ay] by rw [hw1]; exact Blk.new_ (by simp))
 rw [← hw1]
 obtain ⟨fb, hfb⟩ : ∃ z, w.heap.size = z := ⟨_, rfl⟩
 rw [hfb] at F1 Q1 A1 ⊢
 clear hw1 hfb
 have q0 := Q1.out.at 0 rfl; have q1 := Q1.out.at 1 rfl; have q2 := Q1.out.at 2 rfl; have q3 := Q1.out.at 3 rfl; have q4 := Q1.out.at 4 rfl; have q5 := Q1.out.at 5 rfl; have qz := Q1.out.lt
 have f0 := F1.out.at 0 rfl; have f1 := F1.out.at 1 rfl; have f2 := F1.out.at 2 rfl; have fz := F1.out.lt
 go_wp2_with fail
 refine (HM.out _).mono ?_
 rintro e w2 ⟨rfl, x2⟩
 have X2 := hide (X1.out.trans x2)
 have F2 := hide (F1.out.ext x2)
 have Q2 := hide (Q1.out.ext x2)
 have A2 := hide (A1.out.ext x2)
 clear x2 F1 Q1 A1 X1 q0 q1 q2 q3 q4 q5 qz f0 f1 f2 fz
 have q0 := Q2.out.at 0 rfl; have q1 := Q2.out.at 1 rfl; have q2 := Q2.out.at 2 rfl; have q3 := Q2.out.at 3 rfl; have q4 := Q2.out.at 4 rfl; have q5 := Q2.out.at 5 rfl; have qz := Q2.out.lt
 have f0 := F2.out.at 0 rfl; have f1 := F2.out.at 1 rfl; have f2 := F2.out.at 2 rfl; have fz := F2.out.lt
 go_wp2_with fail
 refine (HNW.out _ X2.out).mono ?_
 rintro e w3 ⟨p, R, rfl, hw, x3, _, _⟩
 have HL1 := hide (fun (w' : World) (x : Ext w3 w') => HLE.out p R w' (hw.ext x))
 have HP1 := hide (fun (w' : World) (x : Ext w3 w') => HPA.out p R w' (hw.ext x))
 have HB1 := hide (fun (hf : inB W H fx fy = true) (ht : inB W H tx ty = true) (w' : World) (x : Ext w3 w') => HBK.out hf ht p R w' (hw.ext x))
 obtain ⟨pb, hpb⟩ : ∃ z, p.b = z := ⟨_, rfl⟩
 rw [hpb] at HL1 HP1 HB1 ⊢
 clear hw hpb HLE HPA HBK HNW HM
 have X3 := hide (X2.out.trans x3)
 have F3 := hide (F2.out.ext x3)
 have Q3 := hide (Q2.out.ext x3)
 have A3 := hide (A2.out.ext x3)
 clear q0 q1 q2 q3 q4 q5 qz f0 f1 f2 fz F2 Q2 A2 X2
 clear x3
 have q0 := Q3.out.at 0 rfl; have q1 := Q3.out.at 1 rfl; have q2 := Q3.out.at 2 rfl; have q3 := Q3.out.at 3 rfl; have q4 := Q3.out.at 4 rfl; have q5 := Q3.out.at 5 rfl; have qz := Q3.out.lt
 have y0 := A3.out.at 0 rfl; have y1 := A3.out.at 1 rfl; have yz := A3.out.lt
 go_wp2_with fail
 refine (HL1.out _ (Ext.refl _)).mono ?_
 rintro e w4 hle
 rcases legsE_two hle with ⟨er, hez, rfl, x4⟩ | ⟨hin, hnd, la, lc, rfl, x4, lo⟩
 ·have X4 := hide (X3.out.trans x4)
  clear x4 hle
  go_wp2_with (go_at_call 10; refine (awake15_any _).mono ?_; rintro e wz ⟨rfl, xz⟩; have XZ := hide (X4.out.trans xz); clear xz)
  go_ret
  exact ⟨rfl, XZ.out⟩
 have LO4 := hide lo
 have HIN := hide hin
 have HND := hide hnd
 have HB2 := hide (HB1.out hin.1 hin.2.1)
 have X34 := hide x4
 have HAI : Hid (inB W H ax ay = true) := hide hin.2.2
 obtain ⟨L, hL⟩ : ∃ z, legsL W H s l (gatesA W H s l) (fx, fy) (tx, ty) (ax, ay) = z := ⟨_, rfl⟩
 have HLA := hide hL
 have HLU := hide (HLB.out (ax, ay))
 rw [hL] at LO4 HLU ⊢
 obtain ⟨u, hu⟩ : ∃ z, L.length = z := ⟨_, rfl⟩
 have HU := hide hu
 rw [hu] at LO4 HLU ⊢
 have X4 := hide (X3.out.trans x4)
 have F4 := hide (F3.out.ext x4)
 have Q4 := hide (Q3.out.ext x4)
 have A4 := hide (A3.out.ext x4)
 clear q0 q1 q2 q3 q4 q5 qz y0 y1 yz F3 Q3 A3 X3
 clear x4 hle hin hnd lo hL hu HL1 HB1
 go_wp2_with fail
 refine (HP1.out _ X34.out).mono ?_
 rintro e w5 ⟨rfl, x5⟩
 have X35 := hide (X34.out.trans x5)
 have LO5 := hide (LO4.out.ext x5)
 have X5 := hide (X4.out.trans x5)
 have F5 := hide (F4.out.ext x5)
 have Q5 := hide (Q4.out.ext x5)
 have A5 := hide (A4.out.ext x5)
 clear  F4 Q4 A4 X4
 clear x5 HP1 LO4 X34
 go_upto_region 10 with (fail)
 obtain ⟨w6, hw6⟩ : ∃ z, z = w5.alloc (.cells #[.int .i64 W, .int .i64 H, .int .i64 s] 53) := ⟨_, rfl⟩
 have X56 := hide (show Ext w5 w6 by rw [hw6]; exact (Ext.refl _).alloc _)
 have P6 := hide (show Blk w6 w5.heap.size 53 #[.int .i64 W, .int .i64 H, .int .i64 s] by rw [hw6]; exact Blk.new_ rfl)
 have X36 := hide (X35.out.trans X56.out)
 have LO6 := hide (LO5.out.ext X56.out)
 rw [← hw6]
 obtain ⟨pp, hpp⟩ : ∃ z, w5.heap.size = z := ⟨_, rfl⟩
 rw [hpp] at P6 ⊢
 have X6 := hide (X5.out.trans X56.out)
 have F6 := hide (F5.out.ext X56.out)
 have Q6 := hide (Q5.out.ext X56.out)
 have A6 := hide (A5.out.ext X56.out)
 clear  F5 Q5 A5 X5
 clear hw6 hpp LO5 X35 X56
 go_wp2_with fail
 go_loopw [11] (fun iv wr => ∃ k : Nat, k ≤ u ∧ iv = .int .i64 (k : Int) ∧ Ext w6 wr) (fun iv _ => u - (intOf iv).toNat)
 case atStart => exact ⟨0, Nat.zero_le _, rfl, Ext.refl _⟩
 case round =>
  obtain ⟨k, hk, rfl, hx⟩ := hrel
  by_cases hlt : k < u
  ·have hkn : k < L.length := by rw [HU.out]; exact hlt
   have e1 : L[k]? = some L[k] := List.getElem?_eq_getElem hkn
   obtain ⟨y, hy⟩ : ∃ y, L[k] = y := ⟨_, rfl⟩
   rw [hy] at e1
   have hmem : y ∈ L := by rw [← hy]; exact List.getElem_mem hkn
   rw [← HLA.out] at hmem
   obtain ⟨m1, m2, m3, m4, m5⟩ := leg_ok HG.out HL.out HAI.out hmem
   have hback := back_one HG.out HL.out HND.out hmem
   have hqi := node_in HG.out m1
   have hqlen := HLB.out y.1
   obtain ⟨b1, o1, rfl, z1, c1⟩ := reads_at (LO6.out.ext hx).reads e1
   have d0 := c1 0 _ rfl
   have d1 := c1 1 _ rfl
   have d2 := c1 2 _ rfl
   have d3 := c1 3 _ rfl
   have d4 := c1 4 _ rfl
   have hsub := HLU.out
   have jk : (k : Int) < (u : Int) := by omega
   have hne : cellB y.1 (ax, ay) = false := by rw [cellB_eq]; simpa using m2
   obtain ⟨⟨yx, yy⟩, yc⟩ := y
   simp only at m1 m2 m3 m4 m5 hback hqi hqlen hne
   have hq1 : ∀ w, (Op.equalIn 10000 28 (.agg #[.int .i64 ax, .int .i64 ay]) (.agg #[.int .i64 ax, .int .i64 ay])).run Tryz.prog w = .ok true w := fun w => by rw [show (Value.agg #[.int .i64 ax, .int .i64 ay]) = .agg #[.int .i64 (ax, ay).1, .int .i64 (ax, ay).2] from rfl, eq_cell (ax, ay) (ax, ay) w, cellB_eq]; simp
   have hq2 : ∀ w, (Op.equalIn 10000 28 (.agg #[.int .i64 yx, .int .i64 yy]) (.agg #[.int .i64 ax, .int .i64 ay])).run Tryz.prog w = .ok false w := fun w => by rw [show (Value.agg #[.int .i64 yx, .int .i64 yy]) = .agg #[.int .i64 (yx, yy).1, .int .i64 (yx, yy).2] from rfl, show (Value.agg #[.int .i64 ax, .int .i64 ay]) = .agg #[.int .i64 (ax, ay).1, .int .i64 (ax, ay).2] from rfl, eq_cell (yx, yy) (ax, ay) w, hne]
   simp only [legA, Nat.add_zero, ← Nat.add_assoc] at d0 d1 d2 d3 d4
   have HX := hide hx
   have M1 := hide m1
   have HBA := hide hback
   have HYC := hide (And.intro m3 m4)
   have M5 := hide m5
   have HQI := hide hqi
   have HQL := hide hqlen
   have FR := hide (F6.out.ext hx)
   have AR := hide (A6.out.ext hx)
   have QR := hide (Q6.out.ext hx)
   have PR := hide (P6.out.ext hx)
   have LR := hide (LO6.out.ext hx)
   have HI1 := hide (fun w' => HI.out w' yx yy)
   have HI2 := hide (fun w' => HI.out w' ax ay)
   rw [hqi] at HI1
   rw [HAI.out] at HI2
   clear hkn hy e1 hmem m1 m2 m3 m4 m5 hback hqi hqlen hne c1 hx
   have f0 := FR.out.at 0 rfl; have f1 := FR.out.at 1 rfl; have f2 := FR.out.at 2 rfl; have fz := FR.out.lt
   have y0 := AR.out.at 0 rfl; have y1 := AR.out.at 1 rfl; have yz := AR.out.lt
   go_wp2_with fail
   refine seqH_start (S := (fun W => (∀ b o, b < wr.heap.size → W.cell? ⟨b, o, none⟩ = wr.cell? ⟨b, o, none⟩) ∧ Ext wr W)) [(0, true), (1, true), (2, true), (3, true), (4, true), (5, true), (6, true), (7, true), (8, true), (9, true), (10, true), (11, true), (12, true), (13, true), (14, true), (15, true), (16, true), (17, true), (18, true), (19, true), (20, true), (21, true), (22, true), (23, true), (24, false), (25, true), (26, true), (27, true), (28, true), (29, true), (30, true), (31, false), (32, true), (33, true)] (by kernel_rfl) (by kernel_rfl) (by kernel_rfl) (by decide) (fun _ _ d _ _ h => by cases d <;> exact h) (by first | with_reducible exact pr_start _ | exact pr_of z_x) (fun hHeld => ?_)
   iterate 24 (apply SeqH.free; (· (simp only [z_0, z_1, z_2]; rfl)); (· first | exact Or.inr ⟨by rfl, rfl⟩ | (refine Or.inl ⟨by rfl, ?_⟩; intro w hSw; (try dsimp only at hSw); go_simp; try with_reducible rfl)); try simp only [Act.put, z_3, z_4, z_5])
   (apply SeqH.step; (· (simp only [z_0, z_1, z_2]; rfl)); intro K hK; go_simp; refine (HI1.out _).mono ?_; rintro e w13 ⟨rfl, x13⟩; go_wp2_with fail; refine hK.out _ _ (pr_of z_x) (fun hHeld => ?_); clear hK K; try simp only [Act.put, z_3, z_4, z_5])
   iterate 6 (apply SeqH.free; (· (simp only [z_0, z_1, z_2]; rfl)); (· first | exact Or.inr ⟨by rfl, rfl⟩ | (refine Or.inl ⟨by rfl, ?_⟩; intro w hSw; (try dsimp only at hSw); go_simp; try with_reducible rfl)); try simp only [Act.put, z_3, z_4, z_5])
   (apply SeqH.step; (· (simp only [z_0, z_1, z_2]; rfl)); intro K hK; go_simp; refine (HI2.out _).mono ?_; rintro e w14 ⟨rfl, x14⟩; go_wp2_with fail; refine hK.out _ _ (pr_of z_x) (fun hHeld => ?_); clear hK K; try simp only [Act.put, z_3, z_4, z_5])
   iterate 2 (apply SeqH.free; (· (simp only [z_0, z_1, z_2]; rfl)); (· first | exact Or.inr ⟨by rfl, rfl⟩ | (refine Or.inl ⟨by rfl, ?_⟩; intro w hSw; (try dsimp only at hSw); go_simp; try with_reducible rfl)); try simp only [Act.put, z_3, z_4, z_5])
   refine SeqH.done ?_
   have XE := hide hHeld.2
   have X14 := hide (HX.out.trans XE.out)
   have Q14 := hide (QR.out.ext XE.out)
   have A14 := hide (A6.out.ext X14.out)
   have X314 := hide (X36.out.trans X14.out)
   have P14 := hide (P6.out.ext X14.out)
   have F14 := hide (F6.out.ext X14.out)
   have t2 := (XE.out.cell (p := ⟨b1, o1 + k * 5 + 2, none⟩) z1).trans d2
   have t3 := (XE.out.cell (p := ⟨b1, o1 + k * 5 + 3, none⟩) z1).trans d3
   have t4 := (XE.out.cell (p := ⟨b1, o1 + k * 5 + 4, none⟩) z1).trans d4
   have z14 : b1 < w14.heap.size := Nat.lt_of_lt_of_le z1 XE.out.size
   have HLK := hide (fun (w' : World) (x : Ext w14 w') => HB2.out w' (X314.out.trans x) yx yy M1.out)
   obtain ⟨M, hM⟩ : ∃ z, legsL W H s l (gatesA W H s l) (fx, fy) (tx, ty) (yx, yy) = z := ⟨_, rfl⟩
   have HMK := hide hM
   have hba := HBA.out
   have hqlen := HQL.out
   rw [hM] at HLK hba hqlen
   obtain ⟨m, hm⟩ : ∃ z, M.length = z := ⟨_, rfl⟩
   have HM := hide hm
   rw [hm] at HLK hqlen
   have HB0 := hide hba.1
   have HB9 := hide hba.2
   have HQM := hide hqlen
   have HPM := hide (show ∀ p ∈ M, 0 < p.2 ∧ p.2 ≤ 10000000 from fun p hp => by
    rw [← hM] at hp
    have := leg_ok HG.out HL.out HQI.out hp
    exact ⟨this.2.2.1, this.2.2.2.1⟩)
   clear hHeld d0 d1 d2 d3 d4 f0 f1 f2 fz y0 y1 yz hM hm hba hqlen FR AR QR PR LR HBA HQL HI1 HI2 x13 x14
   have q0 := Q14.out.at 0 rfl; have q1 := Q14.out.at 1 rfl; have q2 := Q14.out.at 2 rfl; have q3 := Q14.out.at 3 rfl; have q4 := Q14.out.at 4 rfl; have q5 := Q14.out.at 5 rfl; have qz := Q14.out.lt
   go_wp2_with fail
   refine seqH_start (S := (fun W => (∀ b o, b < w14.heap.size → W.cell? ⟨b, o, none⟩ = w14.cell? ⟨b, o, none⟩) ∧ Ext w14 W)) [(0, true), (1, true), (2, true), (3, true), (4, true), (5, true), (6, true), (7, true), (8, true), (9, true), (10, false), (11, true), (12, true), (13, true), (14, true), (15, true)] (by kernel_rfl) (by kernel_rfl) (by kernel_rfl) (by decide) (fun _ _ d _ _ h => by cases d <;> exact h) (by first | with_reducible exact pr_start _ | exact pr_of z_x) (fun hHeld => ?_)
   iterate 10 (apply SeqH.free; (· (simp only [z_0, z_1, z_2]; rfl)); (· first | exact Or.inr ⟨by rfl, rfl⟩ | (refine Or.inl ⟨by rfl, ?_⟩; intro w hSw; (try dsimp only at hSw); go_simp; try with_reducible rfl)); try simp only [Act.put, z_3, z_4, z_5])
   (apply SeqH.step; (· (simp only [z_0, z_1, z_2]; rfl)); intro K hK; go_simp; refine (HLK.out _ z_x).mono ?_; rintro e w15 ⟨va, vc, rfl, x15, lo15⟩; have LB := hide lo15; clear lo15; go_wp2_with fail; refine hK.out _ _ (pr_of z_x) (fun hHeld => ?_); clear hK K; try simp only [Act.put, z_3, z_4, z_5])
   iterate 5 (apply SeqH.free; (· (simp only [z_0, z_1, z_2]; rfl)); (· first | exact Or.inr ⟨by rfl, rfl⟩ | (refine Or.inl ⟨by rfl, ?_⟩; intro w hSw; (try dsimp only at hSw); go_simp; try with_reducible rfl)); try simp only [Act.put, z_3, z_4, z_5])
   refine SeqH.done ?_
   have XE2 := hide hHeld.2
   have X15 := hide (X14.out.trans XE2.out)
   have s2 := (XE2.out.cell (p := ⟨b1, o1 + k * 5 + 2, none⟩) z14).trans t2
   have s3 := (XE2.out.cell (p := ⟨b1, o1 + k * 5 + 3, none⟩) z14).trans t3
   have s4 := (XE2.out.cell (p := ⟨b1, o1 + k * 5 + 4, none⟩) z14).trans t4
   have z15 : b1 < w15.heap.size := Nat.lt_of_lt_of_le z14 XE2.out.size
   have A15 := hide (A6.out.ext X15.out)
   have F15 := hide (F6.out.ext X15.out)
   have P15 := hide (P6.out.ext X15.out)
   have X6_15 := hide (X6.out.trans X15.out)
   have HC1 := hide (fun (w' : World) (x : Ext w15 w') => HCO.out w' (X6_15.out.trans x) yx yy HQI.out)
   have HC2 := hide (fun (w' : World) (x : Ext w15 w') => HCO.out w' (X6_15.out.trans x) ax ay HAI.out)
   have hc1 := HCB.out (yx, yy)
   have hc2 := HCB.out (ax, ay)
   obtain ⟨cy, hcy⟩ : ∃ z, costI l W (yx, yy) = z := ⟨_, rfl⟩
   obtain ⟨ca, hca⟩ : ∃ z, costI l W (ax, ay) = z := ⟨_, rfl⟩
   rw [hcy] at HC1 HB0 hc1
   rw [hca] at HC2 HB0 hc2
   have HCY := hide hcy
   have HB1 := hide (And.intro hc1 hc2)
   clear hHeld x15 t2 t3 t4 q0 q1 q2 q3 q4 q5 qz P14 F14 Q14 A14 HLK hc1 hc2 hcy hca
   go_wp2_with fail
   go_loopw [14, 15] (fun tv jv wr => ∃ j : Nat, j ≤ m ∧ jv = .int .i64 (j : Int) ∧ tv = .int .i64 (((M.take j).countP (fun p => decide (p.1 = (ax, ay))) : Nat) : Int) ∧ Ext w15 wr) (fun _ jv _ => m - (intOf jv).toNat)
   case atStart => exact ⟨0, Nat.zero_le _, rfl, by simp, Ext.refl _⟩
   case round =>
    obtain ⟨j, hj, rfl, rfl, hxj⟩ := hrel
    have XJ := hide hxj
    have u2 := (hxj.cell (p := ⟨b1, o1 + k * 5 + 2, none⟩) z15).trans s2
    have u3 := (hxj.cell (p := ⟨b1, o1 + k * 5 + 3, none⟩) z15).trans s3
    have u4 := (hxj.cell (p := ⟨b1, o1 + k * 5 + 4, none⟩) z15).trans s4
    have zj : b1 < wr.heap.size := Nat.lt_of_lt_of_le z15 hxj.size
    have AJ := hide (A15.out.ext hxj)
    have FJ := hide (F15.out.ext hxj)
    have PJ := hide (P15.out.ext hxj)
    by_cases hlj : j < m
    ·have hjn : j < M.length := by rw [HM.out]; exact hlj
     have e3 : M[j]? = some M[j] := List.getElem?_eq_getElem hjn
     obtain ⟨z, hz⟩ : ∃ z, M[j] = z := ⟨_, rfl⟩
     have hzm : z ∈ M := by rw [← hz]; exact List.getElem_mem hjn
     rw [hz] at e3
     obtain ⟨b2, o2, rfl, z2, c2⟩ := reads_at (LB.out.ext hxj).reads e3
     have g2 := c2 2 _ rfl
     have g3 := c2 3 _ rfl
     have g4 := c2 4 _ rfl
     have hqm := HQM.out
     have jj : (j : Int) < (m : Int) := by omega
     have hcn := count_next (a := (ax, ay)) e3
     have hcl : (M.take j).countP (fun p => decide (p.1 = (ax, ay))) ≤ 100000 := Nat.le_trans List.countP_le_length (by rw [List.length_take]; omega)
     have hzb := HPM.out z hzm
     have hz0 := HB0.out z hzm
     obtain ⟨⟨zx, zy⟩, zc⟩ := z
     simp only at hcn hzb hz0
     simp only [legA, Nat.add_zero, ← Nat.add_assoc] at g2 g3 g4
     obtain ⟨N, hN⟩ : ∃ N, (M.take j).countP (fun p => decide (p.1 = (ax, ay))) = N := ⟨_, rfl⟩
     rw [hN] at hcn hcl ⊢
     have y0 := AJ.out.at 0 rfl; have y1 := AJ.out.at 1 rfl; have yz := AJ.out.lt
     clear hjn hz hzm e3 c2 hN hxj
     by_cases ez : (zx, zy) = (ax, ay)
     ·have hq3 : ∀ w, (Op.equalIn 10000 28 (.agg #[.int .i64 zx, .int .i64 zy]) (.agg #[.int .i64 ax, .int .i64 ay])).run Tryz.prog w = .ok true w := fun w => by rw [show (Value.agg #[.int .i64 zx, .int .i64 zy]) = .agg #[.int .i64 (zx, zy).1, .int .i64 (zx, zy).2] from rfl, show (Value.agg #[.int .i64 ax, .int .i64 ay]) = .agg #[.int .i64 (ax, ay).1, .int .i64 (ax, ay).2] from rfl, eq_cell (zx, zy) (ax, ay) w, cellB_eq]; simpa using ez
      have hwc : IntKind.i64.wrap ((N : Int) + 1) = ((N + 1 : Nat) : Int) := by rw [IntWalk.i64_in _ (by omega)]; push_cast; rfl
      rw [if_pos ez] at hcn
      have HCN := hide hcn
      have hb1 := HB1.out
      have hyc := HYC.out
      have hz1 := hz0 ez
      have hw1 : IntKind.u64.wrap (zc + cy) = zc + cy := wrap_small hzb.1 hzb.2 hb1.1.1 hb1.1.2
      have hw2 : IntKind.u64.wrap (yc + ca) = zc + cy := by rw [wrap_small hyc.1 hyc.2 hb1.2.1 hb1.2.2]; exact hz1.symm
      have hv : (zc + cy != zc + cy) = false := by simp
      have g5 : N ≤ 100000 := hcl
      clear hz0 hz1 hcn hb1 hyc hzb ez hcl
      go_wp2_with fail
      refine seqH_start (S := (fun W => (∀ b o, b < wr.heap.size → W.cell? ⟨b, o, none⟩ = wr.cell? ⟨b, o, none⟩) ∧ Ext wr W)) [(0, true), (1, true), (2, true), (3, true), (4, true), (5, true), (6, true)] (by kernel_rfl) (by kernel_rfl) (by kernel_rfl) (by decide) (fun _ _ d _ _ h => by cases d <;> exact h) (by first | with_reducible exact pr_start _ | exact pr_of z_x) (fun hHeld => ?_)
      iterate 7 (apply SeqH.free; (· (simp only [z_0, z_1, z_2]; rfl)); (· first | exact Or.inr ⟨by rfl, rfl⟩ | (refine Or.inl ⟨by rfl, ?_⟩; intro w hSw; (try dsimp only at hSw); go_simp; try with_reducible rfl)); try simp only [Act.put, z_3, z_4, z_5])
      refine SeqH.done ?_
      have XG := hide hHeld.2
      have XK := hide (XJ.out.trans XG.out)
      clear hHeld
      go_upto_region 22 with (fail)
      obtain ⟨we, hwe⟩ : ∃ z, z = wr.drew := ⟨_, rfl⟩
      rw [← hwe] at XG XK ⊢
      have r2 := (XG.out.cell (p := ⟨b1, o1 + k * 5 + 2, none⟩) zj).trans u2
      have r3 := (XG.out.cell (p := ⟨b1, o1 + k * 5 + 3, none⟩) zj).trans u3
      have r4 := (XG.out.cell (p := ⟨b1, o1 + k * 5 + 4, none⟩) zj).trans u4
      have zr := Nat.lt_of_lt_of_le zj XG.out.size
      have h4 := (XG.out.cell (p := ⟨b2, o2 + j * 5 + 4, none⟩) z2).trans g4
      have zh := Nat.lt_of_lt_of_le z2 XG.out.size
      have AE := hide (AJ.out.ext XG.out)
      have FE := hide (FJ.out.ext XG.out)
      clear hwe u2 u3 u4 zj g2 g3 g4 z2 y0 y1 yz AJ FJ
      have y0 := AE.out.at 0 rfl; have y1 := AE.out.at 1 rfl; have yz := AE.out.lt
      have f0 := FE.out.at 0 rfl; have f1 := FE.out.at 1 rfl; have f2 := FE.out.at 2 rfl; have fz := FE.out.lt
      refine seqH_start (S := (fun W => (∀ b o, b < we.heap.size → W.cell? ⟨b, o, none⟩ = we.cell? ⟨b, o, none⟩) ∧ Ext we W)) [(0, true), (1, true), (2, true), (3, true), (4, true), (5, true), (6, true), (7, true), (8, true), (9, true), (10, true), (13, true), (14, true), (15, true), (16, true), (17, true), (18, true), (19, true), (11, false), (12, true), (20, false), (21, true), (22, true)] (by kernel_rfl) (by kernel_rfl) (by kernel_rfl) (by decide) (fun _ _ d _ _ h => by cases d <;> exact h) (by first | with_reducible exact pr_start _ | exact pr_of z_x) (fun hHeld => ?_)
      iterate 18 (apply SeqH.free; (· (simp only [z_0, z_1, z_2]; rfl)); (· first | exact Or.inr ⟨by rfl, rfl⟩ | (refine Or.inl ⟨by rfl, ?_⟩; intro w hSw; (try dsimp only at hSw); go_simp; try with_reducible rfl)); try simp only [Act.put, z_3, z_4, z_5])
      (apply SeqH.step; (· (simp only [z_0, z_1, z_2]; rfl)); intro K hK; go_simp; refine (HC1.out _ (XK.out.trans z_x)).mono ?_; rintro e w22 ⟨rfl, x22⟩; go_wp2_with fail; refine hK.out _ _ (pr_of z_x) (fun hHeld => ?_); clear hK K; try simp only [Act.put, z_3, z_4, z_5])
      iterate 1 (apply SeqH.free; (· (simp only [z_0, z_1, z_2]; rfl)); (· first | exact Or.inr ⟨by rfl, rfl⟩ | (refine Or.inl ⟨by rfl, ?_⟩; intro w hSw; (try dsimp only at hSw); go_simp; try with_reducible rfl)); try simp only [Act.put, z_3, z_4, z_5])
      (apply SeqH.step; (· (simp only [z_0, z_1, z_2]; rfl)); intro K hK; go_simp; refine (HC2.out _ (XK.out.trans z_x)).mono ?_; rintro e w23 ⟨rfl, x23⟩; go_wp2_with fail; refine hK.out _ _ (pr_of z_x) (fun hHeld => ?_); clear hK K; try simp only [Act.put, z_3, z_4, z_5])
      iterate 2 (apply SeqH.free; (· (simp only [z_0, z_1, z_2]; rfl)); (· first | exact Or.inr ⟨by rfl, rfl⟩ | (refine Or.inl ⟨by rfl, ?_⟩; intro w hSw; (try dsimp only at hSw); go_simp; try with_reducible rfl)); try simp only [Act.put, z_3, z_4, z_5])
      refine SeqH.done ?_
      have XH := hide (XK.out.trans hHeld.2)
      clear hHeld
      go_wp2_with fail
      go_roundw
      case rel => exact ⟨j + 1, by omega, by go_num, by rw [HCN.out] <;> rfl, XH.out⟩
      case measure => simp [intOf]; omega
     ·have hq3 : ∀ w, (Op.equalIn 10000 28 (.agg #[.int .i64 zx, .int .i64 zy]) (.agg #[.int .i64 ax, .int .i64 ay])).run Tryz.prog w = .ok false w := fun w => by rw [show (Value.agg #[.int .i64 zx, .int .i64 zy]) = .agg #[.int .i64 (zx, zy).1, .int .i64 (zx, zy).2] from rfl, show (Value.agg #[.int .i64 ax, .int .i64 ay]) = .agg #[.int .i64 (ax, ay).1, .int .i64 (ax, ay).2] from rfl, eq_cell (zx, zy) (ax, ay) w, cellB_eq]; simpa using ez
      rw [if_neg ez, Nat.add_zero] at hcn
      have HCN := hide hcn
      clear hz0 hcn hzb ez hcl
      go_wp2_with fail
      refine seqH_start (S := (fun W => (∀ b o, b < wr.heap.size → W.cell? ⟨b, o, none⟩ = wr.cell? ⟨b, o, none⟩) ∧ Ext wr W)) [(0, true), (1, true), (2, true), (3, true), (4, true), (5, true), (6, true)] (by kernel_rfl) (by kernel_rfl) (by kernel_rfl) (by decide) (fun _ _ d _ _ h => by cases d <;> exact h) (by first | with_reducible exact pr_start _ | exact pr_of z_x) (fun hHeld => ?_)
      iterate 7 (apply SeqH.free; (· (simp only [z_0, z_1, z_2]; rfl)); (· first | exact Or.inr ⟨by rfl, rfl⟩ | (refine Or.inl ⟨by rfl, ?_⟩; intro w hSw; (try dsimp only at hSw); go_simp; try with_reducible rfl)); try simp only [Act.put, z_3, z_4, z_5])
      refine SeqH.done ?_
      have XH := hide (XJ.out.trans hHeld.2)
      clear hHeld
      go_wp2_with fail
      go_roundw
      case rel => exact ⟨j + 1, by omega, by go_num, by rw [HCN.out] <;> rfl, XH.out⟩
      case measure => simp [intOf]; omega
    ·obtain rfl : m = j := by omega
     rw [List.take_of_length_le (by rw [HM.out]; exact Nat.le_refl _), HB9.out]
     have HO1 := hide (fun w' => HOF.out w' ax ay HAI.out)
     have HO2 := hide (fun w' => HOF.out w' yx yy HQI.out)
     clear hxj hj hlj
     have y0 := AJ.out.at 0 rfl; have y1 := AJ.out.at 1 rfl; have yz := AJ.out.lt
     have p0 := PJ.out.at 0 rfl; have p1 := PJ.out.at 1 rfl; have p2 := PJ.out.at 2 rfl; have pz := PJ.out.lt
     go_wp2_with fail
     refine (HO1.out _).mono ?_
     rintro e w24 ⟨rfl, x24⟩
     have v2 := (x24.cell (p := ⟨b1, o1 + k * 5 + 2, none⟩) zj).trans u2
     have v3 := (x24.cell (p := ⟨b1, o1 + k * 5 + 3, none⟩) zj).trans u3
     have v4 := (x24.cell (p := ⟨b1, o1 + k * 5 + 4, none⟩) zj).trans u4
     have z24 := Nat.lt_of_lt_of_le zj x24.size
     have X24 := hide (XJ.out.trans x24)
     have P24 := hide (PJ.out.ext x24)
     have F24 := hide (FJ.out.ext x24)
     clear u2 u3 u4 zj x24 y0 y1 yz p0 p1 p2 pz AJ PJ FJ
     have p0 := P24.out.at 0 rfl; have p1 := P24.out.at 1 rfl; have p2 := P24.out.at 2 rfl; have pz := P24.out.lt
     go_wp2_with fail
     refine seqH_start (S := (fun W => (∀ b o, b < w24.heap.size → W.cell? ⟨b, o, none⟩ = w24.cell? ⟨b, o, none⟩) ∧ Ext w24 W)) [(0, true), (1, true), (2, true), (3, true), (4, true), (5, true), (6, false), (7, true), (8, true), (9, true), (10, true), (11, true)] (by kernel_rfl) (by kernel_rfl) (by kernel_rfl) (by decide) (fun _ _ d _ _ h => by cases d <;> exact h) (by first | with_reducible exact pr_start _ | exact pr_of z_x) (fun hHeld => ?_)
     iterate 6 (apply SeqH.free; (· (simp only [z_0, z_1, z_2]; rfl)); (· first | exact Or.inr ⟨by rfl, rfl⟩ | (refine Or.inl ⟨by rfl, ?_⟩; intro w hSw; (try dsimp only at hSw); go_simp; try with_reducible rfl)); try simp only [Act.put, z_3, z_4, z_5])
     (apply SeqH.step; (· (simp only [z_0, z_1, z_2]; rfl)); intro K hK; go_simp; refine (HO2.out _).mono ?_; rintro e w25 ⟨rfl, x25⟩; go_wp2_with fail; refine hK.out _ _ (pr_of z_x) (fun hHeld => ?_); clear hK K; try simp only [Act.put, z_3, z_4, z_5])
     iterate 5 (apply SeqH.free; (· (simp only [z_0, z_1, z_2]; rfl)); (· first | exact Or.inr ⟨by rfl, rfl⟩ | (refine Or.inl ⟨by rfl, ?_⟩; intro w hSw; (try dsimp only at hSw); go_simp; try with_reducible rfl)); try simp only [Act.put, z_3, z_4, z_5])
     refine SeqH.done ?_
     have XG := hide hHeld.2
     have r2 := (XG.out.cell (p := ⟨b1, o1 + k * 5 + 2, none⟩) z24).trans v2
     have r3 := (XG.out.cell (p := ⟨b1, o1 + k * 5 + 3, none⟩) z24).trans v3
     have r4 := (XG.out.cell (p := ⟨b1, o1 + k * 5 + 4, none⟩) z24).trans v4
     have zr := Nat.lt_of_lt_of_le z24 XG.out.size
     have X25 := hide (X24.out.trans XG.out)
     have F25 := hide (F24.out.ext XG.out)
     clear hHeld x25 v2 v3 v4 z24 p0 p1 p2 pz P24 F24
     have f0 := F25.out.at 0 rfl; have f1 := F25.out.at 1 rfl; have f2 := F25.out.at 2 rfl; have fz := F25.out.lt
     obtain ⟨ia, hia⟩ : ∃ z, ofN W s ax ay = z := ⟨_, rfl⟩
     obtain ⟨ib, hib⟩ : ∃ z, ofN W s yx yy = z := ⟨_, rfl⟩
     have hm5 := M5.out
     rw [hia, hib, HCY.out] at hm5
     rw [hia, hib]
     by_cases hab : ia = ib
     ·have hg : (ia != ib) = false := by simpa using hab
      clear hab hia hib hm5
      go_wp2_with fail
      refine seqH_start (S := (fun W => (∀ b o, b < w25.heap.size → W.cell? ⟨b, o, none⟩ = w25.cell? ⟨b, o, none⟩) ∧ Ext w25 W)) [(0, true), (1, true), (2, true), (3, true), (4, true), (5, true), (6, true), (7, true), (8, true), (9, true), (10, true), (11, true), (12, true), (13, true), (14, true), (15, true), (16, true), (17, true), (18, true), (19, true), (20, true), (21, true), (22, true), (23, true), (24, true), (25, true), (26, true), (27, true), (28, true), (29, true), (30, true), (31, true), (32, true), (33, true)] (by kernel_rfl) (by kernel_rfl) (by kernel_rfl) (by decide) (fun _ _ d _ _ h => by cases d <;> exact h) (by first | with_reducible exact pr_start _ | exact pr_of z_x) (fun hHeld => ?_)
      iterate 34 (apply SeqH.free; (· (simp only [z_0, z_1, z_2]; rfl)); (· first | exact Or.inr ⟨by rfl, rfl⟩ | (refine Or.inl ⟨by rfl, ?_⟩; intro w hSw; (try dsimp only at hSw); go_simp; try with_reducible rfl)); try simp only [Act.put, z_3, z_4, z_5])
      refine SeqH.done ?_
      have XH := hide (X15.out.trans (X25.out.trans hHeld.2))
      clear hHeld
      go_wp2_with fail
      go_roundw
      case rel => exact ⟨k + 1, by omega, by go_num, XH.out⟩
      case measure => simp [intOf]; omega
     ·have hg : (ia != ib) = true := by simpa using hab
      have hyy : yc = cy := by
       rcases hm5 with ⟨h, _⟩ | ⟨_, h⟩
       ·exact absurd h.symm hab
       ·exact h
      subst hyy
      have hv : (yc != yc) = false := by simp
      clear hab hia hib hm5
      go_wp2_with fail
      refine seqH_start (S := (fun W => (∀ b o, b < w25.heap.size → W.cell? ⟨b, o, none⟩ = w25.cell? ⟨b, o, none⟩) ∧ Ext w25 W)) [(0, true), (1, true), (2, true), (3, true), (4, true), (5, true), (6, true), (7, true), (8, true), (9, true), (10, true), (11, true), (12, true), (13, true), (14, true), (15, true), (16, true), (17, true), (18, true), (19, true), (20, true), (21, true), (22, true), (23, true), (24, true), (25, true), (26, true), (27, true), (28, true), (29, true), (30, false), (31, true), (32, true), (33, true)] (by kernel_rfl) (by kernel_rfl) (by kernel_rfl) (by decide) (fun _ _ d _ _ h => by cases d <;> exact h) (by first | with_reducible exact pr_start _ | exact pr_of z_x) (fun hHeld => ?_)
      iterate 30 (apply SeqH.free; (· (simp only [z_0, z_1, z_2]; rfl)); (· first | exact Or.inr ⟨by rfl, rfl⟩ | (refine Or.inl ⟨by rfl, ?_⟩; intro w hSw; (try dsimp only at hSw); go_simp; try with_reducible rfl)); try simp only [Act.put, z_3, z_4, z_5])
      (apply SeqH.step; (· (simp only [z_0, z_1, z_2]; rfl)); intro K hK; go_simp; refine (HC1.out _ (X25.out.trans z_x)).mono ?_; rintro e w26 ⟨rfl, x26⟩; go_wp2_with fail; refine hK.out _ _ (pr_of z_x) (fun hHeld => ?_); clear hK K; try simp only [Act.put, z_3, z_4, z_5])
      iterate 3 (apply SeqH.free; (· (simp only [z_0, z_1, z_2]; rfl)); (· first | exact Or.inr ⟨by rfl, rfl⟩ | (refine Or.inl ⟨by rfl, ?_⟩; intro w hSw; (try dsimp only at hSw); go_simp; try with_reducible rfl)); try simp only [Act.put, z_3, z_4, z_5])
      refine SeqH.done ?_
      have XH := hide (X15.out.trans (X25.out.trans hHeld.2))
      clear hHeld
      go_wp2_with fail
      go_roundw
      case rel => exact ⟨k + 1, by omega, by go_num, XH.out⟩
      case measure => simp [intOf]; omega
  ·obtain rfl : u = k := by omega
   have X13 := hide (X6.out.trans hx)
   clear hx
   go_wp2_with (go_at_call 10; refine (awake15_any _).mono ?_; rintro e wz ⟨rfl, xz⟩; have XZ := hide (X13.out.trans xz); clear xz)
   go_ret
   exact ⟨rfl, XZ.out⟩
theorem hierBacks_any {w : World} (W H : Int) (a : Option Addr) (l : List Int) (c : Nat) (s fx fy tx ty b ax ay : Int) (hr : Row16 w a l) (hu : U16s l) :
  Calls Tryz.prog 4 #[.agg #[.int .i64 W, .int .i64 H, .slice a l.length c], .agg #[.int .i64 s, .int .i64 fx, .int .i64 fy, .int .i64 tx, .int .i64 ty, .int .i64 b], .agg #[.int .i64 ax, .int .i64 ay]] w fun e w' => e = .returned (.bool true) ∧ Ext w w' := by
 cases hm : (decide (l.length ≤ 150) && decide (newE W H l.length s = 0))
 ·exact hk_no W H a l.length c s fx fy tx ty b ax ay hm
 ·rw [Bool.and_eq_true, decide_eq_true_eq, decide_eq_true_eq] at hm
  exact hk_yes c fx fy tx ty b ax ay (new_good hu hm.2) hm.1 hr hm.2
end Go.Proofs.YtaellcgglldjaaaGreat

