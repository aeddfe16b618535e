/- The walk of InnerOwn. -/
import Derived.Test.YtifbmapianddcaaInS
import Derived.Test.YtifbmapianddcaaInN
import Derived.Test.YtifbmapianddcaaInH
import Derived.Test.YtifbmapianddcaaLib
set_option linter.all false
set_option linter.unusedVariables false
set_option linter.unusedSimpArgs false
namespace Go.Proofs.Ytifbmapianddcaa
open Go.RowKit

set_option maxRecDepth 100000 in
theorem iw_far {w : World} (W H : Int) (a : Option Addr) (n c : Nat) (PW PH s id : Int) (ca : Option Addr) (m cc : Nat) (tx ty at_ : Int) (h : (decide (n ≤ 260) && decide (m ≤ 60)) = false ∨ ((decide (n ≤ 260) && decide (m ≤ 60)) = true ∧ (30 < m ∨ (¬ 30 < m ∧ (at_ < 0 ∨ (¬ at_ < 0 ∧ (m : Int) ≤ at_)))))) :
    Calls Try.prog 7 #[.agg #[.int .i64 W, .int .i64 H, .slice a n c], .agg #[.int .i64 PW, .int .i64 PH, .int .i64 s], .agg #[.int .i64 id, .slice ca m cc, .int .i64 tx, .int .i64 ty, .int .i64 at_]] w fun e w' => e = .returned (.bool true) ∧ Ext w w' := by
  have HS := hide (fun w' => small13_any W H a n c id ca m cc tx ty w')
  rcases h with h | ⟨h, h1 | ⟨h1, h2 | ⟨h2, h3⟩⟩⟩
  · rw [h] at HS
    clear h
    go_enter Try.func7, Try.ntmps7
    go_wp2_with fail
    refine (HS.out _).mono ?_
    rintro e w1 ⟨rfl, hb1⟩
    go_wp2_with (go_at_call 24; refine (awake13_any _).mono ?_; rintro e w6 ⟨rfl, hb6⟩)
    go_ret
    exact ⟨rfl, (by (with_reducible (repeat' (first | exact Ext.refl _ | assumption | refine Ext.drew ?_ | refine Ext.drewN ?_ _ | refine Ext.alloc ?_ _ | refine Ext.setCell ?_ ?_ _ | refine Ext.trans ?_ (by assumption)))); all_goals (first | (simp; done) | (simp; omega)))⟩
  · rw [h] at HS
    have d1 : decide ((30 : Int) < (m : Int)) = true := by simp; omega
    have e1 : decide (30 < m) = true := by simp; omega
    clear h h1
    go_enter Try.func7, Try.ntmps7
    go_wp2_with fail
    refine (HS.out _).mono ?_
    rintro e w1 ⟨rfl, hb1⟩
    obtain ⟨hc1, hf1⟩ := hb1.cells; have hz1 := hb1.size; (repeat (first | rw [World.size_alloc] at hz1 | rw [World.size_drew] at hz1)); have z1_0 : w.heap.size < w1.heap.size := (by omega); have z1_1 : w.heap.size + 1 < w1.heap.size := (by omega); have z1_2 : w.heap.size + 2 < w1.heap.size := (by omega); have z1_3 : w.heap.size + 3 < w1.heap.size := (by omega)
    go_wp2_with (go_at_call 24; refine (awake13_any _).mono ?_; rintro e w6 ⟨rfl, hb6⟩)
    go_ret
    exact ⟨rfl, (by (with_reducible (repeat' (first | exact Ext.refl _ | assumption | refine Ext.drew ?_ | refine Ext.drewN ?_ _ | refine Ext.alloc ?_ _ | refine Ext.setCell ?_ ?_ _ | refine Ext.trans ?_ (by assumption)))); all_goals (first | (simp; done) | (simp; omega)))⟩
  · rw [h] at HS
    have d1 : decide ((30 : Int) < (m : Int)) = false := by simp; omega
    have e1 : decide (30 < m) = false := by simp; omega
    have d2 : decide (at_ < 0) = true := by simpa using h2
    clear h h1 h2
    go_enter Try.func7, Try.ntmps7
    go_wp2_with fail
    refine (HS.out _).mono ?_
    rintro e w1 ⟨rfl, hb1⟩
    obtain ⟨hc1, hf1⟩ := hb1.cells; have hz1 := hb1.size; (repeat (first | rw [World.size_alloc] at hz1 | rw [World.size_drew] at hz1)); have z1_0 : w.heap.size < w1.heap.size := (by omega); have z1_1 : w.heap.size + 1 < w1.heap.size := (by omega); have z1_2 : w.heap.size + 2 < w1.heap.size := (by omega); have z1_3 : w.heap.size + 3 < w1.heap.size := (by omega)
    go_wp2_with (go_at_call 24; refine (awake13_any _).mono ?_; rintro e w6 ⟨rfl, hb6⟩)
    go_ret
    exact ⟨rfl, (by (with_reducible (repeat' (first | exact Ext.refl _ | assumption | refine Ext.drew ?_ | refine Ext.drewN ?_ _ | refine Ext.alloc ?_ _ | refine Ext.setCell ?_ ?_ _ | refine Ext.trans ?_ (by assumption)))); all_goals (first | (simp; done) | (simp; omega)))⟩
  · rw [h] at HS
    have d1 : decide ((30 : Int) < (m : Int)) = false := by simp; omega
    have e1 : decide (30 < m) = false := by simp; omega
    have d2 : decide (at_ < 0) = false := by simpa using h2
    have d3 : decide ((m : Int) ≤ at_) = true := by simpa using h3
    clear h h1 h2 h3
    go_enter Try.func7, Try.ntmps7
    go_wp2_with fail
    refine (HS.out _).mono ?_
    rintro e w1 ⟨rfl, hb1⟩
    obtain ⟨hc1, hf1⟩ := hb1.cells; have hz1 := hb1.size; (repeat (first | rw [World.size_alloc] at hz1 | rw [World.size_drew] at hz1)); have z1_0 : w.heap.size < w1.heap.size := (by omega); have z1_1 : w.heap.size + 1 < w1.heap.size := (by omega); have z1_2 : w.heap.size + 2 < w1.heap.size := (by omega); have z1_3 : w.heap.size + 3 < w1.heap.size := (by omega)
    go_wp2_with (go_at_call 24; refine (awake13_any _).mono ?_; rintro e w6 ⟨rfl, hb6⟩)
    go_ret
    exact ⟨rfl, (by (with_reducible (repeat' (first | exact Ext.refl _ | assumption | refine Ext.drew ?_ | refine Ext.drewN ?_ _ | refine Ext.alloc ?_ _ | refine Ext.setCell ?_ ?_ _ | refine Ext.trans ?_ (by assumption)))); all_goals (first | (simp; done) | (simp; omega)))⟩

set_option maxRecDepth 100000 in
set_option maxHeartbeats 2000000 in
theorem iw_bad {w : World} (W H : Int) (a : Option Addr) (l : List Int) (c : Nat) (PW PH s id : Int) (ca : Option Addr) (cs : List Cell) (cc : Nat) (tx ty : Int) (A : Nat) (hA : A < cs.length) (hc : RowC w ca cs) (hl : cs.length ≤ 1000000) (hi : ∀ p ∈ cs, InI p.1 ∧ InI p.2)
    (h : (decide (l.length ≤ 260) && decide (cs.length ≤ 60)) = true) (h30 : ¬ 30 < cs.length) (he : innerE W H l.length PW PH s id cs ≠ 0) :
    Calls Try.prog 7 #[.agg #[.int .i64 W, .int .i64 H, .slice a l.length c], .agg #[.int .i64 PW, .int .i64 PH, .int .i64 s], .agg #[.int .i64 id, .slice ca cs.length cc, .int .i64 tx, .int .i64 ty, .int .i64 A]] w fun e w' => e = .returned (.bool true) ∧ Ext w w' := by
  obtain ⟨q, hq⟩ : ∃ q, cs[A] = q := ⟨_, rfl⟩
  have hte : ∀ p : Cell, toE W H l.length PW PH s id cs p = innerE W H l.length PW PH s id cs := fun p => by unfold toE; rw [if_neg he]
  have HS := hide (fun w' => small13_any W H a l.length c id ca cs.length cc tx ty w')
  rw [h] at HS
  have HO := hide (fun (w' : World) (hx : Ext w w') => iOf_bad (w := w') W H a l.length c PW PH s id ca cs cc (hc.ext hx) hl hi he)
  have HT := hide (fun (w' : World) (hx : Ext w w') (ra : Option Addr) => iTo_bad (w := w') W H a l.length c PW PH s id ca cs cc ra 1 1 q (hc.ext hx) hl hi (by rw [hte]; exact he))
  have HB := hide (fun (w' : World) (hx : Ext w w') (ra : Option Addr) => iBack_bad (w := w') a (l := l) c PW PH s id ca cs cc ra 1 1 q (hc.ext hx) hl hi (by rw [hte]; exact he))
  rw [hte] at HT HB
  generalize innerE W H l.length PW PH s id cs = er at *
  have hb : (er != 0) = true := by simpa using he
  have hee : (er == er) = true := by simp
  obtain ⟨cb, co, rfl, hcb, hcc⟩ := hc (by omega)
  have HCE := hide (hcc A hA)
  rw [hq] at HCE
  obtain ⟨m, hm⟩ : ∃ z, cs.length = z := ⟨_, rfl⟩
  obtain ⟨n, hn⟩ : ∃ z, l.length = z := ⟨_, rfl⟩
  rw [hm, hn] at HS HO HT HB
  rw [hm] at hA h30
  rw [hm, hn]
  clear h hc hl hi he hm hn hte hcc hq
  obtain ⟨qx, qy⟩ := q
  have d1 : decide ((30 : Int) < (m : Int)) = false := by simp; omega
  have e1 : decide (30 < m) = false := by simp; omega
  have d3 : decide ((m : Int) ≤ (A : Int)) = false := by simp; omega
  have e3 : decide (m ≤ A) = false := by simp; omega
  have jA : (A : Int) < (m : Int) := by omega
  clear h30
  go_enter Try.func7, Try.ntmps7
  go_wp2_with fail
  refine (HS.out _).mono ?_
  rintro e w1 ⟨rfl, hb1⟩
  have B0 : Hid (Blk w1 (w.heap.size) 26 #[.int .i64 W, .int .i64 H, .slice a n c]) := hide (by refine Blk.ext ?_ hb1; (repeat' (first | exact Blk.new_ (by simp) | refine Blk.drew ?_ | refine Blk.over ?_)))
  have B1 : Hid (Blk w1 (w.heap.size + 1) 51 #[.int .i64 PW, .int .i64 PH, .int .i64 s]) := hide (by refine Blk.ext ?_ hb1; (repeat' (first | exact Blk.new_ (by simp) | refine Blk.drew ?_ | refine Blk.over ?_)))
  have B2 : Hid (Blk w1 (w.heap.size + 3) 53 #[.int .i64 id, .slice (some ⟨cb, co, none⟩) m cc, .int .i64 tx, .int .i64 ty]) := hide (by refine Blk.ext ?_ hb1; (repeat' (first | exact Blk.new_ (by simp) | refine Blk.drew ?_ | refine Blk.over ?_)))
  have hx1 : Ext w w1 := (by (with_reducible (repeat' (first | exact Ext.refl _ | assumption | refine Ext.drew ?_ | refine Ext.drewN ?_ _ | refine Ext.alloc ?_ _ | refine Ext.setCell ?_ ?_ _ | refine Ext.trans ?_ (by assumption)))); all_goals (first | (simp; done) | (simp; omega)))
  have X1 := hide hx1
  have p0 := B0.out.at 0 rfl; have p1 := B0.out.at 1 rfl; have p2 := B0.out.at 2 rfl; have pz := B0.out.lt
  have q0 := B1.out.at 0 rfl; have q1 := B1.out.at 1 rfl; have q2 := B1.out.at 2 rfl; have qz := B1.out.lt
  have r0 := B2.out.at 0 rfl; have r1 := B2.out.at 1 rfl; have r2 := B2.out.at 2 rfl; have r3 := B2.out.at 3 rfl; have rz := B2.out.lt
  clear hb1 hx1
  go_wp2_with fail
  refine (HO.out _ (X1.out.trans (by (with_reducible (repeat' (first | exact Ext.refl _ | assumption | refine Ext.drew ?_ | refine Ext.drewN ?_ _ | refine Ext.alloc ?_ _ | refine Ext.setCell ?_ ?_ _ | refine Ext.trans ?_ (by assumption)))); all_goals (first | (simp; done) | (simp; omega))))).mono ?_
  rintro e w2 ⟨rfl, hb2⟩
  have hx12 : Ext w1 w2 := (by (with_reducible (repeat' (first | exact Ext.refl _ | assumption | refine Ext.drew ?_ | refine Ext.drewN ?_ _ | refine Ext.alloc ?_ _ | refine Ext.setCell ?_ ?_ _ | refine Ext.trans ?_ (by assumption)))); all_goals (first | (simp; done) | (simp; omega)))
  have X2 := hide (X1.out.trans hx12)
  have C0 := hide (B0.out.ext hx12)
  have C1 := hide (B1.out.ext hx12)
  have C2 := hide (B2.out.ext hx12)
  clear p0 p1 p2 pz q0 q1 q2 qz r0 r1 r2 r3 rz B0 B1 B2 X1 hx12 hb2
  have p0 := C0.out.at 0 rfl; have p1 := C0.out.at 1 rfl; have p2 := C0.out.at 2 rfl; have pz := C0.out.lt
  have q0 := C1.out.at 0 rfl; have q1 := C1.out.at 1 rfl; have q2 := C1.out.at 2 rfl; have qz := C1.out.lt
  have r0 := C2.out.at 0 rfl; have r1 := C2.out.at 1 rfl; have r2 := C2.out.at 2 rfl; have r3 := C2.out.at 3 rfl; have rz := C2.out.lt
  go_wp2_with fail
  obtain ⟨w3, hw3⟩ : ∃ z, z = (((w2.alloc (.cells #[.slice none 0 0, .slice none 0 0] 57)).alloc (.cells #[.int .u64 7] 38)).alloc (.cells #[.slice (some ⟨w2.heap.size + 1, 0, none⟩) 1 1] 33)).alloc (.cells #[.slice (some ⟨cb, co, none⟩) m cc, .slice (some ⟨w2.heap.size + 1 + 1, 0, none⟩) 1 1] 57) := ⟨_, rfl⟩
  have hx23 : Ext w2 w3 := by rw [hw3]; exact (by (with_reducible (repeat' (first | exact Ext.refl _ | assumption | refine Ext.drew ?_ | refine Ext.drewN ?_ _ | refine Ext.alloc ?_ _ | refine Ext.setCell ?_ ?_ _ | refine Ext.trans ?_ (by assumption)))); all_goals (first | (simp; done) | (simp; omega)))
  have TB := hide (show Blk w3 w2.heap.size 57 #[.slice none 0 0, .slice none 0 0] by rw [hw3]; exact (Blk.new_ rfl).over.over.over)
  have UB := hide (show Blk w3 (w2.heap.size + 1 + 1 + 1) 57 #[.slice (some ⟨cb, co, none⟩) m cc, .slice (some ⟨w2.heap.size + 1 + 1, 0, none⟩) 1 1] by rw [hw3]; exact Blk.new_ (by simp))
  have X3 := hide (X2.out.trans hx23)
  have D0 := hide (C0.out.ext hx23)
  have D1 := hide (C1.out.ext hx23)
  have D2 := hide (C2.out.ext hx23)
  rw [← hw3]
  clear p0 p1 p2 pz q0 q1 q2 qz r0 r1 r2 r3 rz C0 C1 C2 hw3
  have p0 := D0.out.at 0 rfl; have p1 := D0.out.at 1 rfl; have p2 := D0.out.at 2 rfl; have pz := D0.out.lt
  have q0 := D1.out.at 0 rfl; have q1 := D1.out.at 1 rfl; have q2 := D1.out.at 2 rfl; have qz := D1.out.lt
  have r0 := D2.out.at 0 rfl; have r1 := D2.out.at 1 rfl; have r2 := D2.out.at 2 rfl; have r3 := D2.out.at 3 rfl; have rz := D2.out.lt
  have u0 := UB.out.at 0 rfl; have u1 := UB.out.at 1 rfl; have uz := UB.out.lt
  have k0 := (X3.out.cell (p := ⟨cb, co + A * 2, none⟩) hcb).trans HCE.out.1
  have k1 := (X3.out.cell (p := ⟨cb, co + A * 2 + 1, none⟩) hcb).trans HCE.out.2
  have kz : cb < w3.heap.size := Nat.lt_of_lt_of_le hcb X3.out.size
  refine seqH_start (S := (fun W => (∀ b o, b < w3.heap.size → W.cell? ⟨b, o, none⟩ = w3.cell? ⟨b, o, none⟩) ∧ Ext w3 W)) [(0, true), (1, true), (2, true), (3, true), (4, true), (5, true), (6, true), (7, true), (8, true), (9, true), (10, false), (11, true), (12, true), (13, true), (14, true), (15, true)] (by kernel_rfl) (by kernel_rfl) (by kernel_rfl) (by decide) (fun _ _ d _ _ h => by cases d <;> exact h) (by first | with_reducible exact pr_start _ | exact pr_of (by (with_reducible (repeat' (first | exact Ext.refl _ | assumption | refine Ext.drew ?_ | refine Ext.drewN ?_ _ | refine Ext.alloc ?_ _ | refine Ext.setCell ?_ ?_ _ | refine Ext.trans ?_ (by assumption)))); all_goals (first | (simp; done) | (simp; omega)))) (fun hHeld => ?_)
  iterate 10 (apply SeqH.free; (· (simp only [List.getElem?_toArray, List.getElem?_cons_succ, List.getElem?_cons_zero]; rfl)); (· first | exact Or.inr ⟨by rfl, rfl⟩ | (refine Or.inl ⟨by rfl, ?_⟩; intro w hSw; (try dsimp only at hSw); go_simp; try with_reducible rfl)); try simp only [Act.put, List.setIfInBounds_toArray, List.set_cons_zero, List.set_cons_succ])
  (apply SeqH.step; (· (simp only [List.getElem?_toArray, List.getElem?_cons_succ, List.getElem?_cons_zero]; rfl)); intro K hK; go_simp; refine (HT.out _ (X3.out.trans (by (with_reducible (repeat' (first | exact Ext.refl _ | assumption | refine Ext.drew ?_ | refine Ext.drewN ?_ _ | refine Ext.alloc ?_ _ | refine Ext.setCell ?_ ?_ _ | refine Ext.trans ?_ (by assumption)))); all_goals (first | (simp; done) | (simp; omega)))) _).mono ?_; rintro e w4 ⟨rfl, hb4⟩; go_wp2_with fail; refine hK.out _ _ (pr_of (by (with_reducible (repeat' (first | exact Ext.refl _ | assumption | refine Ext.drew ?_ | refine Ext.drewN ?_ _ | refine Ext.alloc ?_ _ | refine Ext.setCell ?_ ?_ _ | refine Ext.trans ?_ (by assumption)))); all_goals (first | (simp; done) | (simp; omega)))) (fun hHeld => ?_); clear hK K; try simp only [Act.put, List.setIfInBounds_toArray, List.set_cons_zero, List.set_cons_succ])
  iterate 5 (apply SeqH.free; (· (simp only [List.getElem?_toArray, List.getElem?_cons_succ, List.getElem?_cons_zero]; rfl)); (· first | exact Or.inr ⟨by rfl, rfl⟩ | (refine Or.inl ⟨by rfl, ?_⟩; intro w hSw; (try dsimp only at hSw); go_simp; try with_reducible rfl)); try simp only [Act.put, List.setIfInBounds_toArray, List.set_cons_zero, List.set_cons_succ])
  refine SeqH.done ?_
  have hx34 := hHeld.2
  have X4 := hide (X3.out.trans hx34)
  have E0 := hide (D0.out.ext hx34)
  have E1 := hide (D1.out.ext hx34)
  have E2 := hide (D2.out.ext hx34)
  have VB := hide (UB.out.ext hx34)
  have TB4 := hide (TB.out.ext hx34)
  clear p0 p1 p2 pz q0 q1 q2 qz r0 r1 r2 r3 rz u0 u1 uz D0 D1 D2 UB TB hHeld hb4
  have p0 := E0.out.at 0 rfl; have p1 := E0.out.at 1 rfl; have p2 := E0.out.at 2 rfl; have pz := E0.out.lt
  have q0 := E1.out.at 0 rfl; have q1 := E1.out.at 1 rfl; have q2 := E1.out.at 2 rfl; have qz := E1.out.lt
  have r0 := E2.out.at 0 rfl; have r1 := E2.out.at 1 rfl; have r2 := E2.out.at 2 rfl; have r3 := E2.out.at 3 rfl; have rz := E2.out.lt
  have u0 := VB.out.at 0 rfl; have u1 := VB.out.at 1 rfl; have uz := VB.out.lt
  replace k0 := (hx34.cell (p := ⟨cb, co + A * 2, none⟩) kz).trans k0
  replace k1 := (hx34.cell (p := ⟨cb, co + A * 2 + 1, none⟩) kz).trans k1
  replace kz : cb < w4.heap.size := Nat.lt_of_lt_of_le kz hx34.size
  clear hx34
  go_wp2_with fail
  refine seqH_start (S := (fun W => (∀ b o, b < w4.heap.size → W.cell? ⟨b, o, none⟩ = w4.cell? ⟨b, o, none⟩) ∧ Ext w4 W)) [(0, true), (1, true), (2, true), (3, true), (4, true), (5, true), (6, true), (7, true), (8, true), (9, true), (10, false), (11, true), (12, true), (13, true), (14, true), (15, true)] (by kernel_rfl) (by kernel_rfl) (by kernel_rfl) (by decide) (fun _ _ d _ _ h => by cases d <;> exact h) (by first | with_reducible exact pr_start _ | exact pr_of (by (with_reducible (repeat' (first | exact Ext.refl _ | assumption | refine Ext.drew ?_ | refine Ext.drewN ?_ _ | refine Ext.alloc ?_ _ | refine Ext.setCell ?_ ?_ _ | refine Ext.trans ?_ (by assumption)))); all_goals (first | (simp; done) | (simp; omega)))) (fun hHeld => ?_)
  iterate 10 (apply SeqH.free; (· (simp only [List.getElem?_toArray, List.getElem?_cons_succ, List.getElem?_cons_zero]; rfl)); (· first | exact Or.inr ⟨by rfl, rfl⟩ | (refine Or.inl ⟨by rfl, ?_⟩; intro w hSw; (try dsimp only at hSw); go_simp; try with_reducible rfl)); try simp only [Act.put, List.setIfInBounds_toArray, List.set_cons_zero, List.set_cons_succ])
  (apply SeqH.step; (· (simp only [List.getElem?_toArray, List.getElem?_cons_succ, List.getElem?_cons_zero]; rfl)); intro K hK; go_simp; refine (HB.out _ (X4.out.trans (by (with_reducible (repeat' (first | exact Ext.refl _ | assumption | refine Ext.drew ?_ | refine Ext.drewN ?_ _ | refine Ext.alloc ?_ _ | refine Ext.setCell ?_ ?_ _ | refine Ext.trans ?_ (by assumption)))); all_goals (first | (simp; done) | (simp; omega)))) _).mono ?_; rintro e w5 ⟨rfl, hb5⟩; go_wp2_with fail; refine hK.out _ _ (pr_of (by (with_reducible (repeat' (first | exact Ext.refl _ | assumption | refine Ext.drew ?_ | refine Ext.drewN ?_ _ | refine Ext.alloc ?_ _ | refine Ext.setCell ?_ ?_ _ | refine Ext.trans ?_ (by assumption)))); all_goals (first | (simp; done) | (simp; omega)))) (fun hHeld => ?_); clear hK K; try simp only [Act.put, List.setIfInBounds_toArray, List.set_cons_zero, List.set_cons_succ])
  iterate 5 (apply SeqH.free; (· (simp only [List.getElem?_toArray, List.getElem?_cons_succ, List.getElem?_cons_zero]; rfl)); (· first | exact Or.inr ⟨by rfl, rfl⟩ | (refine Or.inl ⟨by rfl, ?_⟩; intro w hSw; (try dsimp only at hSw); go_simp; try with_reducible rfl)); try simp only [Act.put, List.setIfInBounds_toArray, List.set_cons_zero, List.set_cons_succ])
  refine SeqH.done ?_
  have X5 := hide (X4.out.trans hHeld.2)
  clear p0 p1 p2 pz q0 q1 q2 qz r0 r1 r2 r3 rz u0 u1 uz k0 k1 kz hHeld hb5
  go_wp2_with (go_at_call 24; refine (awake13_any _).mono ?_; rintro e w6 ⟨rfl, hb6⟩)
  go_ret
  exact ⟨rfl, X5.out.trans (by (with_reducible (repeat' (first | exact Ext.refl _ | assumption | refine Ext.drew ?_ | refine Ext.drewN ?_ _ | refine Ext.alloc ?_ _ | refine Ext.setCell ?_ ?_ _ | refine Ext.trans ?_ (by assumption)))); all_goals (first | (simp; done) | (simp; omega)))⟩

set_option maxRecDepth 100000 in
set_option maxHeartbeats 20000000 in
theorem iw_ok {w : World} {W H : Int} {a : Option Addr} {l : List Int} (c : Nat) {PW PH s id : Int} {ca : Option Addr} {cs : List Cell} (cc : Nat) (tx ty : Int) (A : Nat) (hA : A < cs.length) (hr : Row16 w a l) (hu : U16s l) (hc : RowC w ca cs) (hl : cs.length ≤ 1000000) (hi : ∀ p ∈ cs, InI p.1 ∧ InI p.2)
    (h : (decide (l.length ≤ 260) && decide (cs.length ≤ 60)) = true) (h30 : ¬ 30 < cs.length) (he : innerE W H l.length PW PH s id cs = 0) :
    Calls Try.prog 7 #[.agg #[.int .i64 W, .int .i64 H, .slice a l.length c], .agg #[.int .i64 PW, .int .i64 PH, .int .i64 s], .agg #[.int .i64 id, .slice ca cs.length cc, .int .i64 tx, .int .i64 ty, .int .i64 A]] w fun e w' => e = .returned (.bool true) ∧ Ext w w' := by
  obtain ⟨e1, rfl, rfl, e4, e5, e6⟩ := innerE_ok.1 he
  have L : boxL PW PH s id l := boxL_of e1 e4 e5 hu
  have hok := cells_ok e4 e5 e6
  have hlk : ∀ q : Cell, hasB (boxX PW s id) (boxY PW s id) (boxW PW s id) (boxH PW PH s id) q.1 q.2 = true → lookE PW PH l.length (boxX PW s id) (boxY PW s id) (boxW PW s id) (boxH PW PH s id) q.1 q.2 = 0 := fun q hq => lookE_ok.2 ⟨L.may, L.len, L.fits, hq⟩
  obtain ⟨q, hq⟩ : ∃ q, cs[A] = q := ⟨_, rfl⟩
  have hqm : q ∈ cs := by rw [← hq]; exact List.getElem_mem hA
  have hte : toE PW PH l.length PW PH s id cs q = 0 := by unfold toE; rw [if_pos he]; exact hlk q (hok q hqm)
  have HS := hide (fun w' => small13_any PW PH a l.length c id ca cs.length cc tx ty w')
  rw [h] at HS
  have HO := hide (fun (w' : World) (hx : Ext w w') => iOf_ok (w := w') c cc (hr.ext hx) hu (hc.ext hx) hl hi he L)
  have HT := hide (fun (w' : World) (hx : Ext w w') (ra : Option Addr) => iTo_ok (w := w') c cc ra 1 1 (p := q) (hr.ext hx) (hc.ext hx) hl hi hte L)
  have HB := hide (fun (w' : World) (hx : Ext w w') (ra : Option Addr) => iBack_ok (w := w') c cc ra 1 1 (p := q) (hr.ext hx) (hc.ext hx) hl hi hte L)
  have HCC := hide (fun (w' : World) (x y : Option Addr) (p q : Nat) (h1 : RowC w' x cs) (h2 : RowC w' y cs) => cells13_any x y cs cs p q w' hl h1 h2)
  have HC := hide hc
  have HL0 : Hid (cs.length ≤ 1000000) := hide hl
  have HRA : Hid ((cs.map (rowD L cs))[A]? = some (rowD L cs q)) := hide (by rw [List.getElem?_map, List.getElem?_eq_getElem hA, hq]; rfl)
  have HRB : Hid (∀ k, k < cs.length → ∃ r z, (cs.map (rowD L cs))[k]? = some r ∧ r[A]? = some z ∧ (cs.map (fun y => farD L y (idxN PW q)))[k]? = some z) := hide (fun k hk => by
    refine ⟨rowD L cs cs[k], farD L cs[k] (idxN PW q), ?_, ?_, ?_⟩
    · rw [List.getElem?_map, List.getElem?_eq_getElem hk]; rfl
    · unfold rowD; rw [List.getElem?_map, List.getElem?_eq_getElem hA, hq]; rfl
    · rw [List.getElem?_map, List.getElem?_eq_getElem hk]; rfl)
  have HRL : Hid (∀ r, r ∈ cs.map (rowD L cs) → r.length = cs.length) := hide (fun r hr => by
    obtain ⟨z, _, rfl⟩ := List.mem_map.1 hr
    unfold rowD; rw [List.length_map])
  have HRZ : Hid (∃ r, (cs.map (rowD L cs))[0]? = some r ∧ r[0]? ≠ some 77) := hide (by
    have h0 : 0 < cs.length := by omega
    refine ⟨rowD L cs cs[0], by rw [List.getElem?_map, List.getElem?_eq_getElem h0]; rfl, ?_⟩
    unfold rowD
    rw [List.getElem?_map, List.getElem?_eq_getElem h0]
    have hf := farD_is L cs[0]
    intro e
    simp only [Option.map_some, Option.some.injEq] at e
    cases ho : (mapNet L).op (idxN PW cs[0])
    · rw [hf.shut _ ho] at e; simp [infI] at e
    · rw [hf.start ho] at e; simp at e)
  have HL1 : Hid ((rowD L cs q).length = cs.length) := hide (by unfold rowD; rw [List.length_map])
  have HL2 : Hid ((cs.map (fun y => farD L y (idxN PW q))).length = cs.length) := hide (List.length_map _)
  have HLR : Hid ((cs.map (rowD L cs)).length = cs.length) := hide (List.length_map _)
  obtain ⟨R1, hR1⟩ : ∃ z, rowD L cs q = z := ⟨_, rfl⟩
  obtain ⟨R2, hR2⟩ : ∃ z, cs.map (fun y => farD L y (idxN PW q)) = z := ⟨_, rfl⟩
  obtain ⟨RR, hRR⟩ : ∃ z, cs.map (rowD L cs) = z := ⟨_, rfl⟩
  rw [hR1] at HT HRA HL1
  rw [hR2] at HB HRB HL2
  rw [hRR] at HO HRA HRB HRL HRZ HLR
  have HS1 := hide (fun (w' : World) (x y : Option Addr) (p q : Nat) (h1 : RowU w' x R1) (h2 : RowU w' y R1) => same13_any x y R1 R1 p q w' (by rw [HL1.out]; exact hl) h1 h2)
  rw [HL1.out] at HS1
  simp only [decide_true] at HS1 HCC
  obtain ⟨cb, co, rfl, hcb, hcc⟩ := hc (by omega)
  have HCE := hide (hcc A hA)
  rw [hq] at HCE
  obtain ⟨m, hm⟩ : ∃ z, cs.length = z := ⟨_, rfl⟩
  obtain ⟨n, hn⟩ : ∃ z, l.length = z := ⟨_, rfl⟩
  have HMM := hide hm
  rw [hm, hn] at HS HO HT HB
  rw [hm] at hA h30 HCC HRB HRL HL1 HL2 HS1 HL0 HLR
  rw [hm, hn]
  clear h hc hl hi he hm hn hte hcc hq e1 e4 e5 e6 hok hlk hqm hR1 hR2 hRR L hr hu
  obtain ⟨qx, qy⟩ := q
  have d1 : decide ((30 : Int) < (m : Int)) = false := by simp; omega
  have e1 : decide (30 < m) = false := by simp; omega
  have d3 : decide ((m : Int) ≤ (A : Int)) = false := by simp; omega
  have e3 : decide (m ≤ A) = false := by simp; omega
  have jA : (A : Int) < (m : Int) := by omega
  have hm0 : 0 < m := by omega
  have hm30 : m ≤ 30 := by omega
  clear h30
  go_enter Try.func7, Try.ntmps7
  go_wp2_with fail
  refine (HS.out _).mono ?_
  rintro e w1 ⟨rfl, hb1⟩
  have B0 : Hid (Blk w1 (w.heap.size) 26 #[.int .i64 PW, .int .i64 PH, .slice a n c]) := hide (by refine Blk.ext ?_ hb1; (repeat' (first | exact Blk.new_ (by simp) | refine Blk.drew ?_ | refine Blk.over ?_)))
  have B1 : Hid (Blk w1 (w.heap.size + 1) 51 #[.int .i64 PW, .int .i64 PH, .int .i64 s]) := hide (by refine Blk.ext ?_ hb1; (repeat' (first | exact Blk.new_ (by simp) | refine Blk.drew ?_ | refine Blk.over ?_)))
  have B2 : Hid (Blk w1 (w.heap.size + 3) 53 #[.int .i64 id, .slice (some ⟨cb, co, none⟩) m cc, .int .i64 tx, .int .i64 ty]) := hide (by refine Blk.ext ?_ hb1; (repeat' (first | exact Blk.new_ (by simp) | refine Blk.drew ?_ | refine Blk.over ?_)))
  have hx1 : Ext w w1 := (by (with_reducible (repeat' (first | exact Ext.refl _ | assumption | refine Ext.drew ?_ | refine Ext.drewN ?_ _ | refine Ext.alloc ?_ _ | refine Ext.setCell ?_ ?_ _ | refine Ext.trans ?_ (by assumption)))); all_goals (first | (simp; done) | (simp; omega)))
  have X1 := hide hx1
  have p0 := B0.out.at 0 rfl; have p1 := B0.out.at 1 rfl; have p2 := B0.out.at 2 rfl; have pz := B0.out.lt
  have q0 := B1.out.at 0 rfl; have q1 := B1.out.at 1 rfl; have q2 := B1.out.at 2 rfl; have qz := B1.out.lt
  have r0 := B2.out.at 0 rfl; have r1 := B2.out.at 1 rfl; have r2 := B2.out.at 2 rfl; have r3 := B2.out.at 3 rfl; have rz := B2.out.lt
  clear hb1 hx1
  go_wp2_with fail
  refine (HO.out _ (X1.out.trans (by (with_reducible (repeat' (first | exact Ext.refl _ | assumption | refine Ext.drew ?_ | refine Ext.drewN ?_ _ | refine Ext.alloc ?_ _ | refine Ext.setCell ?_ ?_ _ | refine Ext.trans ?_ (by assumption)))); all_goals (first | (simp; done) | (simp; omega))))).mono ?_
  rintro e w2 ⟨v1, v2, rfl, hb2, ho2, hr2⟩
  obtain ⟨g1, c1, rfl, hg1a, hg1b⟩ := ho2.pos (by rw [HMM.out]; exact hm0)
  obtain ⟨a2, c2, rfl, _⟩ := rowsU_of hr2
  rw [HLR.out] at hr2 ⊢
  rw [HMM.out] at ho2 ⊢
  have zb1 : w1.heap.size ≤ g1 := hg1a
  have X1s : w.heap.size ≤ g1 := by have := X1.out.size; omega
  have X1s2 : w.heap.size ≤ w1.heap.size := X1.out.size
  have O2 := hide ho2
  have W2 := hide hr2
  clear ho2 hr2 hg1a hg1b
  have hx12 : Ext w1 w2 := (by (with_reducible (repeat' (first | exact Ext.refl _ | assumption | refine Ext.drew ?_ | refine Ext.drewN ?_ _ | refine Ext.alloc ?_ _ | refine Ext.setCell ?_ ?_ _ | refine Ext.trans ?_ (by assumption)))); all_goals (first | (simp; done) | (simp; omega)))
  have X2 := hide (X1.out.trans hx12)
  have C0 := hide (B0.out.ext hx12)
  have C1 := hide (B1.out.ext hx12)
  have C2 := hide (B2.out.ext hx12)
  clear p0 p1 p2 pz q0 q1 q2 qz r0 r1 r2 r3 rz B0 B1 B2 X1 hx12 hb2
  have p0 := C0.out.at 0 rfl; have p1 := C0.out.at 1 rfl; have p2 := C0.out.at 2 rfl; have pz := C0.out.lt
  have q0 := C1.out.at 0 rfl; have q1 := C1.out.at 1 rfl; have q2 := C1.out.at 2 rfl; have qz := C1.out.lt
  have r0 := C2.out.at 0 rfl; have r1 := C2.out.at 1 rfl; have r2 := C2.out.at 2 rfl; have r3 := C2.out.at 3 rfl; have rz := C2.out.lt
  go_wp2_with fail
  obtain ⟨w3, hw3⟩ : ∃ z, z = (((w2.alloc (.cells #[.slice (some ⟨g1, 0, none⟩) m c1, .slice a2 m c2] 57)).alloc (.cells #[.int .u64 7] 38)).alloc (.cells #[.slice (some ⟨w2.heap.size + 1, 0, none⟩) 1 1] 33)).alloc (.cells #[.slice (some ⟨cb, co, none⟩) m cc, .slice (some ⟨w2.heap.size + 1 + 1, 0, none⟩) 1 1] 57) := ⟨_, rfl⟩
  have hx23 : Ext w2 w3 := by rw [hw3]; exact (by (with_reducible (repeat' (first | exact Ext.refl _ | assumption | refine Ext.drew ?_ | refine Ext.drewN ?_ _ | refine Ext.alloc ?_ _ | refine Ext.setCell ?_ ?_ _ | refine Ext.trans ?_ (by assumption)))); all_goals (first | (simp; done) | (simp; omega)))
  have TB := hide (show Blk w3 w2.heap.size 57 #[.slice (some ⟨g1, 0, none⟩) m c1, .slice a2 m c2] by rw [hw3]; exact (Blk.new_ rfl).over.over.over)
  have UB := hide (show Blk w3 (w2.heap.size + 1 + 1 + 1) 57 #[.slice (some ⟨cb, co, none⟩) m cc, .slice (some ⟨w2.heap.size + 1 + 1, 0, none⟩) 1 1] by rw [hw3]; exact Blk.new_ (by simp))
  have X3 := hide (X2.out.trans hx23)
  have D0 := hide (C0.out.ext hx23)
  have D1 := hide (C1.out.ext hx23)
  have D2 := hide (C2.out.ext hx23)
  rw [← hw3]
  clear p0 p1 p2 pz q0 q1 q2 qz r0 r1 r2 r3 rz C0 C1 C2 hw3
  have p0 := D0.out.at 0 rfl; have p1 := D0.out.at 1 rfl; have p2 := D0.out.at 2 rfl; have pz := D0.out.lt
  have q0 := D1.out.at 0 rfl; have q1 := D1.out.at 1 rfl; have q2 := D1.out.at 2 rfl; have qz := D1.out.lt
  have r0 := D2.out.at 0 rfl; have r1 := D2.out.at 1 rfl; have r2 := D2.out.at 2 rfl; have r3 := D2.out.at 3 rfl; have rz := D2.out.lt
  have u0 := UB.out.at 0 rfl; have u1 := UB.out.at 1 rfl; have uz := UB.out.lt
  have k0 := (X3.out.cell (p := ⟨cb, co + A * 2, none⟩) hcb).trans HCE.out.1
  have k1 := (X3.out.cell (p := ⟨cb, co + A * 2 + 1, none⟩) hcb).trans HCE.out.2
  have kz : cb < w3.heap.size := Nat.lt_of_lt_of_le hcb X3.out.size
  have O3 := hide (O2.out.ext hx23)
  have W3 := hide (W2.out.ext hx23)
  clear O2 W2 hx23 X2
  refine seqH_start (S := (fun W => (∀ b o, b < w3.heap.size → W.cell? ⟨b, o, none⟩ = w3.cell? ⟨b, o, none⟩) ∧ Ext w3 W)) [(0, true), (1, true), (2, true), (3, true), (4, true), (5, true), (6, true), (7, true), (8, true), (9, true), (10, false), (11, true), (12, true), (13, true), (14, true), (15, true)] (by kernel_rfl) (by kernel_rfl) (by kernel_rfl) (by decide) (fun _ _ d _ _ h => by cases d <;> exact h) (by first | with_reducible exact pr_start _ | exact pr_of (by (with_reducible (repeat' (first | exact Ext.refl _ | assumption | refine Ext.drew ?_ | refine Ext.drewN ?_ _ | refine Ext.alloc ?_ _ | refine Ext.setCell ?_ ?_ _ | refine Ext.trans ?_ (by assumption)))); all_goals (first | (simp; done) | (simp; omega)))) (fun hHeld => ?_)
  iterate 10 (apply SeqH.free; (· (simp only [List.getElem?_toArray, List.getElem?_cons_succ, List.getElem?_cons_zero]; rfl)); (· first | exact Or.inr ⟨by rfl, rfl⟩ | (refine Or.inl ⟨by rfl, ?_⟩; intro w hSw; (try dsimp only at hSw); go_simp; try with_reducible rfl)); try simp only [Act.put, List.setIfInBounds_toArray, List.set_cons_zero, List.set_cons_succ])
  (apply SeqH.step; (· (simp only [List.getElem?_toArray, List.getElem?_cons_succ, List.getElem?_cons_zero]; rfl)); intro K hK; go_simp; refine (HT.out _ (X3.out.trans (by (with_reducible (repeat' (first | exact Ext.refl _ | assumption | refine Ext.drew ?_ | refine Ext.drewN ?_ _ | refine Ext.alloc ?_ _ | refine Ext.setCell ?_ ?_ _ | refine Ext.trans ?_ (by assumption)))); all_goals (first | (simp; done) | (simp; omega)))) _).mono ?_; rintro e w4 ⟨⟨s1, s2, s3⟩, rfl, hb4, ho4⟩; simp only at ho4 ⊢; have es : m = s2 := (by have := ho4.reads.rowU.1; rw [HL1.out] at this; exact this.symm); subst es; go_wp2_with fail; refine hK.out _ _ (pr_of (by (with_reducible (repeat' (first | exact Ext.refl _ | assumption | refine Ext.drew ?_ | refine Ext.drewN ?_ _ | refine Ext.alloc ?_ _ | refine Ext.setCell ?_ ?_ _ | refine Ext.trans ?_ (by assumption)))); all_goals (first | (simp; done) | (simp; omega)))) (fun hHeld => ?_); clear hK K; try simp only [Act.put, List.setIfInBounds_toArray, List.set_cons_zero, List.set_cons_succ])
  iterate 5 (apply SeqH.free; (· (simp only [List.getElem?_toArray, List.getElem?_cons_succ, List.getElem?_cons_zero]; rfl)); (· first | exact Or.inr ⟨by rfl, rfl⟩ | (refine Or.inl ⟨by rfl, ?_⟩; intro w hSw; (try dsimp only at hSw); go_simp; try with_reducible rfl)); try simp only [Act.put, List.setIfInBounds_toArray, List.set_cons_zero, List.set_cons_succ])
  refine SeqH.done ?_
  have hx34 := hHeld.2
  have X4 := hide (X3.out.trans hx34)
  have E0 := hide (D0.out.ext hx34)
  have E1 := hide (D1.out.ext hx34)
  have E2 := hide (D2.out.ext hx34)
  have VB := hide (UB.out.ext hx34)
  have TB4 := hide (TB.out.ext hx34)
  have O4 := hide (O3.out.ext hx34)
  have W4 := hide (W3.out.ext hx34)
  have A4 := hide ho4.reads.rowU.2
  clear p0 p1 p2 pz q0 q1 q2 qz r0 r1 r2 r3 rz u0 u1 uz D0 D1 D2 UB TB hHeld hb4 ho4 O3 W3
  have p0 := E0.out.at 0 rfl; have p1 := E0.out.at 1 rfl; have p2 := E0.out.at 2 rfl; have pz := E0.out.lt
  have q0 := E1.out.at 0 rfl; have q1 := E1.out.at 1 rfl; have q2 := E1.out.at 2 rfl; have qz := E1.out.lt
  have r0 := E2.out.at 0 rfl; have r1 := E2.out.at 1 rfl; have r2 := E2.out.at 2 rfl; have r3 := E2.out.at 3 rfl; have rz := E2.out.lt
  have u0 := VB.out.at 0 rfl; have u1 := VB.out.at 1 rfl; have uz := VB.out.lt
  replace k0 := (hx34.cell (p := ⟨cb, co + A * 2, none⟩) kz).trans k0
  replace k1 := (hx34.cell (p := ⟨cb, co + A * 2 + 1, none⟩) kz).trans k1
  replace kz : cb < w4.heap.size := Nat.lt_of_lt_of_le kz hx34.size
  clear hx34
  go_wp2_with fail
  refine seqH_start (S := (fun W => (∀ b o, b < w4.heap.size → W.cell? ⟨b, o, none⟩ = w4.cell? ⟨b, o, none⟩) ∧ Ext w4 W)) [(0, true), (1, true), (2, true), (3, true), (4, true), (5, true), (6, true), (7, true), (8, true), (9, true), (10, false), (11, true), (12, true), (13, true), (14, true), (15, true)] (by kernel_rfl) (by kernel_rfl) (by kernel_rfl) (by decide) (fun _ _ d _ _ h => by cases d <;> exact h) (by first | with_reducible exact pr_start _ | exact pr_of (by (with_reducible (repeat' (first | exact Ext.refl _ | assumption | refine Ext.drew ?_ | refine Ext.drewN ?_ _ | refine Ext.alloc ?_ _ | refine Ext.setCell ?_ ?_ _ | refine Ext.trans ?_ (by assumption)))); all_goals (first | (simp; done) | (simp; omega)))) (fun hHeld => ?_)
  iterate 10 (apply SeqH.free; (· (simp only [List.getElem?_toArray, List.getElem?_cons_succ, List.getElem?_cons_zero]; rfl)); (· first | exact Or.inr ⟨by rfl, rfl⟩ | (refine Or.inl ⟨by rfl, ?_⟩; intro w hSw; (try dsimp only at hSw); go_simp; try with_reducible rfl)); try simp only [Act.put, List.setIfInBounds_toArray, List.set_cons_zero, List.set_cons_succ])
  (apply SeqH.step; (· (simp only [List.getElem?_toArray, List.getElem?_cons_succ, List.getElem?_cons_zero]; rfl)); intro K hK; go_simp; refine (HB.out _ (X4.out.trans (by (with_reducible (repeat' (first | exact Ext.refl _ | assumption | refine Ext.drew ?_ | refine Ext.drewN ?_ _ | refine Ext.alloc ?_ _ | refine Ext.setCell ?_ ?_ _ | refine Ext.trans ?_ (by assumption)))); all_goals (first | (simp; done) | (simp; omega)))) _).mono ?_; rintro e w5 ⟨v5, rfl, hb5, ho5⟩; obtain ⟨t1, t3, rfl⟩ := ho5.slice; rw [HL2.out] at ho5 ⊢; go_wp2_with fail; refine hK.out _ _ (pr_of (by (with_reducible (repeat' (first | exact Ext.refl _ | assumption | refine Ext.drew ?_ | refine Ext.drewN ?_ _ | refine Ext.alloc ?_ _ | refine Ext.setCell ?_ ?_ _ | refine Ext.trans ?_ (by assumption)))); all_goals (first | (simp; done) | (simp; omega)))) (fun hHeld => ?_); clear hK K; try simp only [Act.put, List.setIfInBounds_toArray, List.set_cons_zero, List.set_cons_succ])
  iterate 5 (apply SeqH.free; (· (simp only [List.getElem?_toArray, List.getElem?_cons_succ, List.getElem?_cons_zero]; rfl)); (· first | exact Or.inr ⟨by rfl, rfl⟩ | (refine Or.inl ⟨by rfl, ?_⟩; intro w hSw; (try dsimp only at hSw); go_simp; try with_reducible rfl)); try simp only [Act.put, List.setIfInBounds_toArray, List.set_cons_zero, List.set_cons_succ])
  refine SeqH.done ?_
  have hx45 := hHeld.2
  have X5 := hide (X4.out.trans hx45)
  have O5 := hide (O4.out.ext hx45)
  have W5 := hide (W4.out.ext hx45)
  have A5 := hide (A4.out.ext hx45)
  have B5 := hide ho5.reads.rowU.2
  have F0 := hide (E0.out.ext hx45)
  have F1 := hide (E1.out.ext hx45)
  have F2 := hide (E2.out.ext hx45)
  have T5 := hide (TB4.out.ext hx45)
  clear p0 p1 p2 pz q0 q1 q2 qz r0 r1 r2 r3 rz u0 u1 uz k0 k1 kz hHeld hb5 ho5 E0 E1 E2 VB TB4 O4 W4 A4 hx45
  obtain ⟨bb, ob, ea2, zbb, hbb⟩ := (RowsAt.u W5.out) (by rw [HLR.out]; exact hm0)
  subst ea2
  have HBB := hide hbb
  obtain ⟨sa, sc, hsa, hsu⟩ := hbb A (by rw [HLR.out]; exact hA)
  have hra := List.getElem?_eq_some_iff.1 HRA.out
  obtain ⟨hra1, hra2⟩ := hra
  rw [hra2] at hsa hsu
  rw [HL1.out] at hsa
  have HSU := hide hsu
  have r0 := F2.out.at 0 rfl; have r1 := F2.out.at 1 rfl; have r2 := F2.out.at 2 rfl; have r3 := F2.out.at 3 rfl; have rz := F2.out.lt
  have t0 := T5.out.at 0 rfl; have t1 := T5.out.at 1 rfl; have tz := T5.out.lt
  clear hbb hsu hra1 hra2
  go_wp2_with fail
  refine (HS1.out _ s1 sa s3 sc (A5.out.ext (by (with_reducible (repeat' (first | exact Ext.refl _ | assumption | refine Ext.drew ?_ | refine Ext.drewN ?_ _ | refine Ext.alloc ?_ _ | refine Ext.setCell ?_ ?_ _ | refine Ext.trans ?_ (by assumption)))); all_goals (first | (simp; done) | (simp; omega)))) (HSU.out.ext (by (with_reducible (repeat' (first | exact Ext.refl _ | assumption | refine Ext.drew ?_ | refine Ext.drewN ?_ _ | refine Ext.alloc ?_ _ | refine Ext.setCell ?_ ?_ _ | refine Ext.trans ?_ (by assumption)))); all_goals (first | (simp; done) | (simp; omega))))).mono ?_
  rintro e w6 ⟨rfl, hb6⟩
  have hx56 : Ext w5 w6 := (by (with_reducible (repeat' (first | exact Ext.refl _ | assumption | refine Ext.drew ?_ | refine Ext.drewN ?_ _ | refine Ext.alloc ?_ _ | refine Ext.setCell ?_ ?_ _ | refine Ext.trans ?_ (by assumption)))); all_goals (first | (simp; done) | (simp; omega)))
  have X6 := hide (X5.out.trans hx56)
  clear r0 r1 r2 r3 rz t0 t1 tz hsa hb6 HSU A5
  go_wp2_with fail
  go_loopw [16] (fun iv wr => ∃ k : Nat, k ≤ m ∧ iv = .int .i64 k ∧ Ext w6 wr) (fun iv _ => m - (intOf iv).toNat)
  case atStart => exact ⟨0, Nat.zero_le _, rfl, Ext.refl _⟩
  case round =>
    obtain ⟨k, hk, rfl, hx⟩ := hrel
    have XR := hide hx
    have X5R := hide (hx56.trans hx)
    have G2 := hide (F2.out.ext X5R.out)
    have GT := hide (T5.out.ext X5R.out)
    clear hx
    have r0 := G2.out.at 0 rfl; have r1 := G2.out.at 1 rfl; have r2 := G2.out.at 2 rfl; have r3 := G2.out.at 3 rfl; have rz := G2.out.lt
    have t0 := GT.out.at 0 rfl; have t1 := GT.out.at 1 rfl; have tz := GT.out.lt
    by_cases hlt : k < m
    · obtain ⟨r, z, h1, h2, h3⟩ := HRB.out k hlt
      obtain ⟨hk1, hk2⟩ := List.getElem?_eq_some_iff.1 h1
      obtain ⟨sk, ck, hsk, hsu⟩ := HBB.out k hk1
      rw [hk2] at hsk hsu
      have hrl : r.length = m := HRL.out r (List.mem_of_getElem? h1)
      obtain ⟨b1, o1, rfl, zb1', hb1'⟩ := hsu (by omega)
      obtain ⟨hA1, hA2⟩ := List.getElem?_eq_some_iff.1 h2
      have hc1 := hb1' A hA1
      rw [hA2] at hc1
      obtain ⟨b2, o2, rfl, zb2', hb2'⟩ := B5.out (by rw [HL2.out]; omega)
      obtain ⟨hK1, hK2⟩ := List.getElem?_eq_some_iff.1 h3
      have hc2 := hb2' k hK1
      rw [hK2] at hc2
      rw [hrl] at hsk
      have y0 := (X5R.out.cell (p := ⟨bb, ob + k, none⟩) zbb).trans hsk
      have y1 := (X5R.out.cell (p := ⟨b1, o1 + A, none⟩) zb1').trans hc1
      have y2 := (X5R.out.cell (p := ⟨b2, o2 + k, none⟩) zb2').trans hc2
      have yz0 : bb < wr.heap.size := Nat.lt_of_lt_of_le zbb X5R.out.size
      have yz1 : b1 < wr.heap.size := Nat.lt_of_lt_of_le zb1' X5R.out.size
      have yz2 : b2 < wr.heap.size := Nat.lt_of_lt_of_le zb2' X5R.out.size
      have jk : (k : Int) < (m : Int) := by omega
      clear h1 h2 h3 hk1 hk2 hsk hsu hb1' hA1 hA2 hc1 hb2' hK1 hK2 hc2 hrl
      go_wp2_with fail
      refine seqH_start (S := (fun W => (∀ b o, b < wr.heap.size → W.cell? ⟨b, o, none⟩ = wr.cell? ⟨b, o, none⟩) ∧ Ext wr W)) [(0, true), (1, true), (2, true), (3, true), (4, true), (5, true), (6, true), (7, true), (8, true), (9, true), (10, true), (11, true), (12, true), (13, true), (14, true), (15, true), (16, true), (17, true), (18, true), (19, true), (20, true), (21, true), (22, true), (23, true), (24, true)] (by kernel_rfl) (by kernel_rfl) (by kernel_rfl) (by decide) (fun _ _ d _ _ h => by cases d <;> exact h) (by first | with_reducible exact pr_start _ | exact pr_of (by (with_reducible (repeat' (first | exact Ext.refl _ | assumption | refine Ext.drew ?_ | refine Ext.drewN ?_ _ | refine Ext.alloc ?_ _ | refine Ext.setCell ?_ ?_ _ | refine Ext.trans ?_ (by assumption)))); all_goals (first | (simp; done) | (simp; omega)))) (fun hHeld => ?_)
      iterate 25 (apply SeqH.free; (· (simp only [List.getElem?_toArray, List.getElem?_cons_succ, List.getElem?_cons_zero]; rfl)); (· first | exact Or.inr ⟨by rfl, rfl⟩ | (refine Or.inl ⟨by rfl, ?_⟩; intro w hSw; (try dsimp only at hSw); go_simp; try with_reducible rfl)); try simp only [Act.put, List.setIfInBounds_toArray, List.set_cons_zero, List.set_cons_succ])
      refine SeqH.done ?_
      clear hHeld
      go_wp2_with fail
      go_roundw
      case rel => exact ⟨k + 1, hlt, by go_num, XR.out.trans (by (with_reducible (repeat' (first | exact Ext.refl _ | assumption | refine Ext.drew ?_ | refine Ext.drewN ?_ _ | refine Ext.alloc ?_ _ | refine Ext.setCell ?_ ?_ _ | refine Ext.trans ?_ (by assumption)))); all_goals (first | (simp; done) | (simp; omega)))⟩
      case measure => simp [intOf]; omega
    · obtain rfl : k = m := by omega
      have OC := hide (O5.out.ext X5R.out)
      have OW := hide (W5.out.ext X5R.out)
      have H0 := hide (F0.out.ext X5R.out)
      have H1 := hide (F1.out.ext X5R.out)
      have XW := hide (X5.out.trans X5R.out)
      have hgc : ∃ x y, cs[0]? = some (x, y) := ⟨_, _, List.getElem?_eq_getElem (by rw [HMM.out]; exact hm0)⟩
      obtain ⟨x0, y0, hg0⟩ := hgc
      have HG0 := hide hg0
      clear hg0 O5 W5 F0 F1 B5 F2 T5 HRA HRB HS1 HT HB HL1 HL2 HBB zbb HCE hx56
      go_upto_region 19 with (at_builtin; refine wpList_app_rowc rfl _ _ rfl wr.heap.size _ rfl (Own.lit0 cellE wr _ _ _ rfl (Nat.le_refl _)) (some ⟨cb, co, none⟩) cs cc (by rw [HMM.out]; rfl) (HC.out.ext (XW.out.trans (by (with_reducible (repeat' (first | exact Ext.refl _ | assumption | refine Ext.drew ?_ | refine Ext.drewN ?_ _ | refine Ext.alloc ?_ _ | refine Ext.setCell ?_ ?_ _ | refine Ext.trans ?_ (by assumption)))); all_goals (first | (simp; done) | (simp; omega))))) (fun h => by cases h) (by rw [HMM.out]; exact HL0.out) (by simp) ?_; intro v7 w7 o7 b7; obtain ⟨gw, cw, rfl, hgw1, hgw2⟩ := o7.pos (by rw [HMM.out]; exact hm0); rw [HMM.out] at o7 ⊢; have N7 := hide o7; have X7 := hide (((Ext.refl wr).alloc (.cells #[] 28)).of_below b7 (Nat.le_refl _)); clear o7 b7)
      have K0 := hide (H0.out.ext X7.out)
      have K1 := hide (H1.out.ext X7.out)
      have K2 := hide (G2.out.ext X7.out)
      have KT := hide (GT.out.ext X7.out)
      have KC := hide (OC.out.ext X7.out)
      have KW := hide (OW.out.ext X7.out)
      have XW7 := hide (XW.out.trans X7.out)
      have hgr : g1 < wr.heap.size := (own_lt OC.out (k := g1) rfl).2
      clear r0 r1 r2 r3 rz t0 t1 tz H0 H1 G2 GT OC OW XW XR X5R
      have m0 := own_cell KC.out HG0.out (j := 0) (u := .int .i64 x0) rfl
      have m1 := own_cell KC.out HG0.out (j := 1) (u := .int .i64 y0) rfl
      simp only [Nat.zero_mul, Nat.zero_add] at m0 m1
      have m0a := m0.1
      have m0b := m0.2
      have m1a := m1.1
      have m1b := m1.2
      have m0z := (own_lt KC.out (k := g1) rfl).2
      have t0 := KT.out.at 0 rfl; have t1 := KT.out.at 1 rfl; have tz := KT.out.lt
      clear m0 m1
      go_upto_region 20 with (fail)
      obtain ⟨w8, hw8⟩ : ∃ z, z = (w7.setCell ⟨g1, 0, none⟩ (.int .i64 77)).setCell ⟨g1, 1, none⟩ (.int .i64 0) := ⟨_, rfl⟩
      have TU : Touch (fun j => j = g1) w7 w8 := by rw [hw8]; exact touch2 _ _ _ _
      have LC := hide (show Own cellE w8 _ 28 (.slice (some ⟨g1, 0, none⟩) k c1) (cs.set 0 (77, 0)) by rw [hw8]; exact cells_turn0 KC.out (by rw [HMM.out]; exact hm0) 77 0)
      have ng : ∀ (b : Nat) (t : TypeId) (z : Array Value), Blk w7 b t z → 28 ≠ t → ¬ b = g1 := fun b t z hb hne e => Blk.ne_own hb KC.out hne (by simp [Value.ownBlock, e])
      have L0 := hide (K0.out.touch TU (ng _ _ _ K0.out (by decide)))
      have L1 := hide (K1.out.touch TU (ng _ _ _ K1.out (by decide)))
      have L2 := hide (K2.out.touch TU (ng _ _ _ K2.out (by decide)))
      have LT := hide (KT.out.touch TU (ng _ _ _ KT.out (by decide)))
      have LW := hide (KW.out.touch_own KC.out (by decide) (by decide) (TU.mono (fun j _ e => by simp [Value.ownBlock, e])))
      have LN := hide (N7.out.touch TU (fun j hj e => by simp only [Value.ownBlock, Option.some.injEq] at hj; omega))
      have XW8 := hide (XW7.out.of_below (Touch.to_below (B := w.heap.size) TU XW7.out.size (fun j e => by have := X1s; omega)) (Nat.le_refl _))
      rw [← hw8]
      clear hw8 m0a m0b m1a m1b m0z t0 t1 tz ng TU K0 K1 K2 KT KC KW XW7 N7
      obtain ⟨r0, hr0, hr077⟩ := HRZ.out
      have hr0l : r0.length = k := HRL.out r0 (List.mem_of_getElem? hr0)
      obtain ⟨go, g0, c0, z0, eb, hgo, hgo1, hg0a, hg0b, hz0, hfz0, OR0, ll, hll, hlll, hlln, hlls⟩ := rows_spoil LW.out hr0 (by omega) 77 hr077
      injection eb with eb
      injection eb with eb1 eb2 _
      subst eb1 eb2
      rw [hr0l] at hgo1
      have HSP := hide hll
      have HSN := hide hlln
      have HSS := hide hlls
      have HSL : Hid (ll.length = k) := hide (by rw [hlll, HLR.out])
      have OG := hide OR0
      have t0 := LT.out.at 0 rfl; have t1 := LT.out.at 1 rfl; have tz := LT.out.lt
      clear hll hlln hlls hr0 hr077 hr0l hlll OR0
      go_upto_region 21 with (fail)
      obtain ⟨w9, hw9⟩ : ∃ z, z = w8.setCell ⟨g0, 0, none⟩ (.int .u64 77) := ⟨_, rfl⟩
      have TV : Touch (fun j => j = g0) w8 w9 := by rw [hw9]; exact (Touch.refl (fun j => j = g0) w8).setCell (p := ⟨g0, 0, none⟩) (.inl rfl) _
      have nr : ∀ (b : Nat) (t : TypeId) (z : Array Value), Blk w8 b t z → 38 ≠ t → ¬ b = g0 := fun b t z hb hne e => Blk.ne_own hb OG.out hne (by simp [Value.ownBlock, e])
      have M0 := hide (L0.out.touch TV (nr _ _ _ L0.out (by decide)))
      have M1 := hide (L1.out.touch TV (nr _ _ _ L1.out (by decide)))
      have M2 := hide (L2.out.touch TV (nr _ _ _ L2.out (by decide)))
      have MT := hide (LT.out.touch TV (nr _ _ _ LT.out (by decide)))
      have MC := hide (LC.out.touch TV (fun j hj e => own_ne_own LC.out OG.out (by decide) hj (by simp [Value.ownBlock, e])))
      have MN := hide (LN.out.touch TV (fun j hj e => own_ne_own LN.out OG.out (by decide) hj (by simp [Value.ownBlock, e])))
      have XW9 := hide (XW8.out.of_below (Touch.to_below (B := w.heap.size) TV XW8.out.size (fun j e => by have := X1s2; omega)) (Nat.le_refl _))
      rw [← hw9] at HSP ⊢
      have HSAME := hide (fun (w' : World) (x y : Option Addr) (h1 : RowC w' (some ⟨g1, 0, none⟩) (cs.set 0 (77, 0))) (h2 : RowC w' x cs) (h3 : RowsU w' (some ⟨bb, 0, none⟩) ll) (h4 : RowsU w' y RR) (e1 e2 e3 e4 : Nat) => iSame_any (some ⟨g1, 0, none⟩) x (some ⟨bb, 0, none⟩) y (cs.set 0 (77, 0)) cs ll RR e1 e2 e3 e4 w' (by rw [List.length_set, HMM.out]; exact HL0.out) h1 h2 (by rw [HSL.out]; exact HL0.out) h3 h4 (fun r hr => by
        obtain ⟨r', hr', e⟩ := HSS.out r hr
        rw [e, HRL.out r' hr']; exact HL0.out))
      rw [show decide (ll = RR) = false from by simpa using HSN.out] at HSAME
      simp only [List.length_set, Bool.and_false] at HSAME
      rw [HMM.out, HSL.out, HLR.out] at HSAME
      clear hw9 TV nr L0 L1 L2 LT LC LN XW8 LW OG HSN HSS t0 t1 tz hgo hgo1 hg0a hg0b hz0 hfz0
      have p0 := M0.out.at 0 rfl; have p1 := M0.out.at 1 rfl; have p2 := M0.out.at 2 rfl; have pz := M0.out.lt
      have q0 := M1.out.at 0 rfl; have q1 := M1.out.at 1 rfl; have q2 := M1.out.at 2 rfl; have qz := M1.out.lt
      have r0 := M2.out.at 0 rfl; have r1 := M2.out.at 1 rfl; have r2 := M2.out.at 2 rfl; have r3 := M2.out.at 3 rfl; have rz := M2.out.lt
      go_wp2_with fail
      refine (HO.out _ (XW9.out.trans (by (with_reducible (repeat' (first | exact Ext.refl _ | assumption | refine Ext.drew ?_ | refine Ext.drewN ?_ _ | refine Ext.alloc ?_ _ | refine Ext.setCell ?_ ?_ _ | refine Ext.trans ?_ (by assumption)))); all_goals (first | (simp; done) | (simp; omega))))).mono ?_
      rintro e w10 ⟨v3, v4, rfl, hb10, ho10, hr10⟩
      obtain ⟨a3, c3, rfl⟩ := ho10.slice
      obtain ⟨a4, c4, rfl, hu10⟩ := rowsU_of hr10
      rw [HLR.out]
      rw [HMM.out] at ho10 ⊢
      have hx9 : Ext w9 w10 := (by (with_reducible (repeat' (first | exact Ext.refl _ | assumption | refine Ext.drew ?_ | refine Ext.drewN ?_ _ | refine Ext.alloc ?_ _ | refine Ext.setCell ?_ ?_ _ | refine Ext.trans ?_ (by assumption)))); all_goals (first | (simp; done) | (simp; omega)))
      have N2 := hide (M2.out.ext hx9)
      have NT := hide (MT.out.ext hx9)
      have NC := hide (Reads.rowC (MC.out.ext hx9).reads).2
      have NN := hide (Reads.rowC (MN.out.ext hx9).reads).2
      have NS := hide (HSP.out.ext hx9)
      have NV := hide (Reads.rowC ho10.reads).2
      have NU := hide hu10
      have XW10 := hide (XW9.out.trans hx9)
      clear p0 p1 p2 pz q0 q1 q2 qz r0 r1 r2 r3 rz M0 M1 M2 MT MC MN HSP XW9 hx9 hb10 ho10 hr10 hu10
      have r0 := N2.out.at 0 rfl; have r1 := N2.out.at 1 rfl; have r2 := N2.out.at 2 rfl; have r3 := N2.out.at 3 rfl; have rz := N2.out.lt
      have t0 := NT.out.at 0 rfl; have t1 := NT.out.at 1 rfl; have tz := NT.out.lt
      go_wp2_with fail
      refine (HCC.out _ (some ⟨cb, co, none⟩) (some ⟨gw, 0, none⟩) cc cw (HC.out.ext (XW10.out.trans (by (with_reducible (repeat' (first | exact Ext.refl _ | assumption | refine Ext.drew ?_ | refine Ext.drewN ?_ _ | refine Ext.alloc ?_ _ | refine Ext.setCell ?_ ?_ _ | refine Ext.trans ?_ (by assumption)))); all_goals (first | (simp; done) | (simp; omega))))) (NN.out.ext (by (with_reducible (repeat' (first | exact Ext.refl _ | assumption | refine Ext.drew ?_ | refine Ext.drewN ?_ _ | refine Ext.alloc ?_ _ | refine Ext.setCell ?_ ?_ _ | refine Ext.trans ?_ (by assumption)))); all_goals (first | (simp; done) | (simp; omega))))).mono ?_
      rintro e w11 ⟨rfl, hb11⟩
      have DV : Hid (Blk w11 (w10.heap.size) 57 #[.slice a3 k c3, .slice a4 k c4]) := hide (by refine Blk.ext ?_ hb11; (repeat' (first | exact Blk.new_ (by simp) | refine Blk.drew ?_ | refine Blk.over ?_)))
      have hx10 : Ext w10 w11 := (by (with_reducible (repeat' (first | exact Ext.refl _ | assumption | refine Ext.drew ?_ | refine Ext.drewN ?_ _ | refine Ext.alloc ?_ _ | refine Ext.setCell ?_ ?_ _ | refine Ext.trans ?_ (by assumption)))); all_goals (first | (simp; done) | (simp; omega)))
      have NT11 := hide (NT.out.ext hx10)
      clear r0 r1 r2 r3 rz t0 t1 tz hb11
      have t0 := NT11.out.at 0 rfl; have t1 := NT11.out.at 1 rfl; have tz := NT11.out.lt
      have u0 := DV.out.at 0 rfl; have u1 := DV.out.at 1 rfl; have uz := DV.out.lt
      go_wp2_with fail
      refine (HSAME.out _ a3 a4 (NC.out.ext (hx10.trans (by (with_reducible (repeat' (first | exact Ext.refl _ | assumption | refine Ext.drew ?_ | refine Ext.drewN ?_ _ | refine Ext.alloc ?_ _ | refine Ext.setCell ?_ ?_ _ | refine Ext.trans ?_ (by assumption)))); all_goals (first | (simp; done) | (simp; omega))))) (NV.out.ext (hx10.trans (by (with_reducible (repeat' (first | exact Ext.refl _ | assumption | refine Ext.drew ?_ | refine Ext.drewN ?_ _ | refine Ext.alloc ?_ _ | refine Ext.setCell ?_ ?_ _ | refine Ext.trans ?_ (by assumption)))); all_goals (first | (simp; done) | (simp; omega))))) (NS.out.ext (hx10.trans (by (with_reducible (repeat' (first | exact Ext.refl _ | assumption | refine Ext.drew ?_ | refine Ext.drewN ?_ _ | refine Ext.alloc ?_ _ | refine Ext.setCell ?_ ?_ _ | refine Ext.trans ?_ (by assumption)))); all_goals (first | (simp; done) | (simp; omega))))) (NU.out.ext (hx10.trans (by (with_reducible (repeat' (first | exact Ext.refl _ | assumption | refine Ext.drew ?_ | refine Ext.drewN ?_ _ | refine Ext.alloc ?_ _ | refine Ext.setCell ?_ ?_ _ | refine Ext.trans ?_ (by assumption)))); all_goals (first | (simp; done) | (simp; omega))))) c1 c3 c2 c4).mono ?_
      rintro e w12 ⟨rfl, hb12⟩
      have hx11 : Ext w11 w12 := (by (with_reducible (repeat' (first | exact Ext.refl _ | assumption | refine Ext.drew ?_ | refine Ext.drewN ?_ _ | refine Ext.alloc ?_ _ | refine Ext.setCell ?_ ?_ _ | refine Ext.trans ?_ (by assumption)))); all_goals (first | (simp; done) | (simp; omega)))
      clear t0 t1 tz u0 u1 uz hb12
      go_wp2_with (go_at_call 24; refine (awake13_any _).mono ?_; rintro e w13 ⟨rfl, hb13⟩)
      go_ret
      exact ⟨rfl, (XW10.out.trans (hx10.trans hx11)).trans (by (with_reducible (repeat' (first | exact Ext.refl _ | assumption | refine Ext.drew ?_ | refine Ext.drewN ?_ _ | refine Ext.alloc ?_ _ | refine Ext.setCell ?_ ?_ _ | refine Ext.trans ?_ (by assumption)))); all_goals (first | (simp; done) | (simp; omega)))⟩
end Go.Proofs.Ytifbmapianddcaa
