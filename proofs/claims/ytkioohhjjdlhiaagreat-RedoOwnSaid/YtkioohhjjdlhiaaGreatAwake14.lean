/- The law's ints; the chapter's example. -/
import Derived.Test.YtkioohhjjdlhiaaGreatRedJ
import Derived.Test.YtkioohhjjdlhiaaGreatPartB
set_option linter.all false
set_option linter.unusedVariables false
set_option linter.unusedSimpArgs false
namespace Go.Proofs.YtkioohhjjdlhiaaGreat
open Go.RowKit

theorem ints14_ne (a b : Option Addr) (n m c d : Nat) (w : World) (h : (decide ((n : Int) = m)) = false) (_hn : n ≤ 1000000) (_hm : m ≤ 1000000) :
  Calls Tryz.prog 27 #[.slice a n c, .slice b m d] w fun e w' => e = .returned (.bool false) ∧ Ext w w' := by
 have h' : ((n : Int) != m) = true := by simpa using h
 go_enter Tryz.func27, Tryz.ntmps27
 go_wp2
 go_ret
 exact ⟨rfl, (by (with_reducible (repeat' (first | exact z_r _ | assumption | refine z_d ?_ | refine z_n ?_ _ | refine z_a ?_ _ | refine z_s ?_ ?_ _ | refine z_t ?_ (by assumption)))); all_goals (simp <;> omega))⟩

theorem ints14_zero (a b : Option Addr) (c d : Nat) (w : World) :
  Calls Tryz.prog 27 #[.slice a 0 c, .slice b 0 d] w fun e w' => e = .returned (.bool true) ∧ Ext w w' := by
 go_enter Tryz.func27, Tryz.ntmps27
 go_wp2
 go_loopw [5] (fun i wr => i = .int .i64 0 ∧ Ext w wr) (fun _ _ => 0)
 case atStart => exact ⟨rfl, (by (with_reducible (repeat' (first | exact z_r _ | assumption | refine z_d ?_ | refine z_n ?_ _ | refine z_a ?_ _ | refine z_s ?_ ?_ _ | refine z_t ?_ (by assumption)))); all_goals (simp <;> omega))⟩
 case round =>
  obtain ⟨rfl, hext⟩ := hrel
  go_wp2
  go_ret
  exact ⟨rfl, (by (with_reducible (repeat' (first | exact z_r _ | assumption | refine z_d ?_ | refine z_n ?_ _ | refine z_a ?_ _ | refine z_s ?_ ?_ _ | refine z_t ?_ (by assumption)))); all_goals (simp <;> omega))⟩

set_option maxHeartbeats 400000 in
theorem ints14_rows (b off c b' off' c' : Nat) (l m : List Int) (w : World) (hl : l.length ≤ 1000000) (hlm : l.length = m.length) (hb : b < w.heap.size) (hb' : b' < w.heap.size) (h1 : IntsAt w b off l) (h2 : IntsAt w b' off' m) :
  Calls Tryz.prog 27 #[.slice (some ⟨b, off, none⟩) l.length c, .slice (some ⟨b', off', none⟩) l.length c'] w fun e w' => e = .returned (.bool (l == m)) ∧ Ext w w' := by
 have H1 := hide h1
 have H2 := hide h2
 have HL := hide hlm
 clear h1 h2 hlm
 go_enter Tryz.func27, Tryz.ntmps27
 go_wp2
 go_loopw [5] (fun i wr => ∃ k : Nat, k ≤ l.length ∧ i = .int .i64 k ∧ (∀ j (hj : j < k) (hj' : j < l.length), l[j]? = m[j]?) ∧ Ext w wr) (fun i _ => l.length - (intOf i).toNat)
 case atStart => exact ⟨0, Nat.zero_le _, rfl, fun j hj => by omega, (by (with_reducible (repeat' (first | exact z_r _ | assumption | refine z_d ?_ | refine z_n ?_ _ | refine z_a ?_ _ | refine z_s ?_ ?_ _ | refine z_t ?_ (by assumption)))); all_goals (simp <;> omega))⟩
 case round =>
  obtain ⟨k, hk, rfl, hall, hext⟩ := hrel
  have HA := hide hall
  clear hall
  by_cases hlt : k < l.length
  ·have hlt' : k < m.length := by have := HL.out; omega
   have d1 := (H1.out.ext hb hext) k hlt
   have d2 := (H2.out.ext hb' hext) k hlt'
   cases hne : (l[k] != m[k])
   ·go_wp2
    go_quiet (fail)
    go_wp2
    go_roundw
    case rel => exact ⟨k + 1, by omega, by go_num, fun j hj hj' => by
          by_cases e : j = k
          ·subst e; rw [List.getElem?_eq_getElem hj', List.getElem?_eq_getElem hlt']; simpa using hne
          ·exact HA.out j (by omega) hj', (by (with_reducible (repeat' (first | exact z_r _ | assumption | refine z_d ?_ | refine z_n ?_ _ | refine z_a ?_ _ | refine z_s ?_ ?_ _ | refine z_t ?_ (by assumption)))); all_goals (simp <;> omega))⟩
    case measure => simp [intOf]; omega
   ·go_wp2
    go_quiet (fail)
    go_wp2
    go_ret
    have e : (l == m) = false := by
     rw [beq_eq_false_iff_ne]
     rintro rfl
     simp at hne
    exact ⟨by rw [e]; rfl, (by (with_reducible (repeat' (first | exact z_r _ | assumption | refine z_d ?_ | refine z_n ?_ _ | refine z_a ?_ _ | refine z_s ?_ ?_ _ | refine z_t ?_ (by assumption)))); all_goals (simp <;> omega))⟩
  ·have e : (l == m) = true := by
    rw [beq_iff_eq]
    apply List.ext_getElem?
    intro j
    by_cases hj : j < l.length
    ·exact HA.out j (by omega) hj
    ·rw [List.getElem?_eq_none (by omega), List.getElem?_eq_none (by have := HL.out; omega)]
   go_wp2
   go_ret
   exact ⟨by rw [e]; rfl, (by (with_reducible (repeat' (first | exact z_r _ | assumption | refine z_d ?_ | refine z_n ?_ _ | refine z_a ?_ _ | refine z_s ?_ ?_ _ | refine z_t ?_ (by assumption)))); all_goals (simp <;> omega))⟩

theorem ints14_any (va vb : Value) (l m : List Int) (w : World) (hl : l.length ≤ 1000000) (hm : m.length ≤ 1000000) (ha : Reads intE w va l) (hb : Reads intE w vb m) :
  Calls Tryz.prog 27 #[va, vb] w fun e w' => e = .returned (.bool (l == m)) ∧ Ext w w' := by
 by_cases hlm : l.length = m.length
 ·by_cases h0 : l.length = 0
  ·obtain ⟨a, c, rfl⟩ := ha.slice
   obtain ⟨b, d, rfl⟩ := hb.slice
   have e : (l == m) = true := by
    rw [List.eq_nil_of_length_eq_zero h0, List.eq_nil_of_length_eq_zero (l := m) (by omega)]; rfl
   rw [e, ← hlm, h0]
   exact ints14_zero a b c d w
  ·rcases ha with ⟨rfl, rfl⟩ | ⟨b, off, c, rfl, hb1, hc⟩
   ·simp at h0
   ·rcases hb with ⟨rfl, rfl⟩ | ⟨b', off', c', rfl, hb2, hc'⟩
    ·simp at hlm; simp [hlm] at h0
    ·have i1 := (Reads.ints (.inr ⟨b, off, c, rfl, hb1, hc⟩ : Reads intE w (.slice (some ⟨b, off, none⟩) l.length c) l)).2
     have i2 := (Reads.ints (.inr ⟨b', off', c', rfl, hb2, hc'⟩ : Reads intE w (.slice (some ⟨b', off', none⟩) m.length c') m)).2
     rw [← hlm]
     exact ints14_rows b off c b' off' c' l m w hl hlm hb1 hb2 i1 i2
 ·obtain ⟨a, c, rfl⟩ := ha.slice
  obtain ⟨b, d, rfl⟩ := hb.slice
  have e : (l == m) = false := by
   rw [beq_eq_false_iff_ne]
   rintro rfl
   exact hlm rfl
  rw [e]
  exact ints14_ne a b l.length m.length c d w (by simp; omega) hl hm


/-- A block of costs is a row. -/
theorem row16_blk {w : World} {b : Nat} {l : List Int} (h : Blk w b 83 (l.map (Value.int .u16)).toArray) : Row16 w (some ⟨b, 0, none⟩) l := fun _ => ⟨b, 0, rfl, h.lt, fun k hk => by
 rw [Nat.zero_add, h.cell k]
 simp [hk]⟩
theorem rowc_one {w : World} {b : Nat} {x y : Int} (h : Blk w b 69 #[.int .i64 x, .int .i64 y]) : RowC w (some ⟨b, 0, none⟩) [(x, y)] := fun _ => ⟨b, 0, rfl, h.lt, fun k hk => by
 obtain rfl : k = 0 := by simp at hk; omega
 exact ⟨h.at 0 rfl, h.at 1 rfl⟩⟩
theorem reads_int {w : World} {b c : Nat} {l : List Int} (h : Blk w b 3 (l.map (Value.int .i64)).toArray) : Reads intE w (.slice (some ⟨b, 0, none⟩) l.length c) l := by
 refine .inr ⟨b, 0, c, rfl, h.lt, fun j v hj i u hu => ?_⟩
 obtain ⟨hjl, rfl⟩ := List.getElem?_eq_some_iff.1 hj
 have hi : i = 0 := by
  have := (List.getElem?_eq_some_iff.1 hu).1
  simpa [intE] using this
 subst hi
 have : u = .int .i64 l[j] := by simpa [intE] using hu.symm
 subst this
 have := h.cell j
 simpa [intE, hjl] using this
def aw14a : List Int := [1, 1, 1, 1, 1, 1, 1, 1, 1, 1, 1, 1]
def aw14b : List Int := [1, 1, 0, 1, 1, 1, 1, 1, 1, 1, 1, 1]
def aw14c : List Int := [1, 1, 0, 1, 1, 1, 1, 1, 1, 1, 1, 5]
theorem aw14g1 : gatesA 6 2 2 aw14a = [((1, 0), (2, 0)), ((3, 0), (4, 0))] := (refAll_eq (N := 3) (by decide) (by decide)).symm.trans (by decide +kernel)
theorem aw14g2 : gatesA 6 2 2 aw14b = [((1, 1), (2, 1)), ((3, 0), (4, 0))] := (refAll_eq (N := 3) (by decide) (by decide)).symm.trans (by decide +kernel)
theorem aw14g3 : gatesA 6 2 2 aw14c = [((1, 1), (2, 1)), ((3, 0), (4, 0))] := (refAll_eq (N := 3) (by decide) (by decide)).symm.trans (by decide +kernel)
theorem aw14t1 : toldU 6 2 2 aw14a aw14b [(2, 0)] 3 = [0, 1] := by unfold toldU celA; rw [aw14g1, aw14g2]; decide +kernel
theorem aw14t2 : toldU 6 2 2 aw14b aw14c [(5, 1)] 3 = [2] := by unfold toldU celA; rw [aw14g2, aw14g3]; decide +kernel
theorem aw14u1 : updE 6 2 aw14a 6 2 aw14b [(2, 0)] = 0 := by decide +kernel
theorem aw14u2 : updE 6 2 aw14b 6 2 aw14c [(5, 1)] = 0 := by decide +kernel
theorem aw14cnt : (cnt 6 2 2).toNat = 3 := by decide
theorem aw14good : Good 6 2 2 aw14a := ⟨by decide, by decide, by intro x hx; simp [aw14a] at hx; omega⟩
theorem aw14ub : U16s aw14b := by intro x hx; simp [aw14b] at hx; omega
theorem aw14uc : U16s aw14c := by intro x hx; simp [aw14c] at hx; omega

set_option maxRecDepth 100000 in
set_option maxHeartbeats 1000000 in
theorem awake14_any (w : World) : Calls Tryz.prog 15 #[] w fun e w' => e = .returned (.bool true) ∧ Ext w w' := by
 go_enter Tryz.func15, Tryz.ntmps15
 go_wp2_with fail
 obtain ⟨w1, hw1⟩ : ∃ z, z = (w.alloc (.cells #[.int .u16 1, .int .u16 1, .int .u16 1, .int .u16 1, .int .u16 1, .int .u16 1, .int .u16 1, .int .u16 1, .int .u16 1, .int .u16 1, .int .u16 1, .int .u16 1] 83)).alloc (.cells #[.int .i64 6, .int .i64 2, .slice (some ⟨w.heap.size, 0, none⟩) 12 12] 26) := ⟨_, rfl⟩
 have X1 := hide (show Ext w w1 by rw [hw1]; exact (by (with_reducible (repeat' (first | exact z_r _ | assumption | refine z_d ?_ | refine z_n ?_ _ | refine z_a ?_ _ | refine z_s ?_ ?_ _ | refine z_t ?_ (by assumption)))); all_goals (simp <;> omega)))
 have B0 := hide (show Blk w1 w.heap.size 83 (aw14a.map (Value.int .u16)).toArray by rw [hw1]; exact Blk.over (Blk.new_ rfl))
 have BF := hide (show Blk w1 (w.heap.size + 1) 26 #[.int .i64 6, .int .i64 2, .slice (some ⟨w.heap.size, 0, none⟩) 12 12] by rw [hw1]; exact Blk.new_ (by simp))
 obtain ⟨f, hf⟩ : ∃ f, w.heap.size = f := ⟨_, rfl⟩
 rw [hf] at B0 BF hw1
 rw [hf]
 rw [← hw1]
 have hzf := BF.out.lt
 have hfw : w.heap.size ≤ f := by omega
 clear hw1 hf
 have HN := rdNew_yes (w := w1) 12 aw14good (row16_blk B0.out) (by rw [aw14g1]; decide)
 refine HN.mono ?_
 clear HN
 rintro e w2 ⟨p, R, rfl, hw, x2, hF, hR⟩
 have HW := hide hw
 have HFb := hide (show ∀ k, p.F k → f + 1 < k from fun k hk => by have := hF k hk; omega)
 have HRb := hide (show ∀ k, R k → f + 1 < k from fun k hk => by have := hR k hk; omega)
 have B2 := hide (B0.out.ext x2)
 have BF2 := hide (BF.out.ext x2)
 have X2 := hide (X1.out.trans x2)
 have z12 := x2.size
 have HFu := hide (show ∀ k, p.F k → k < w2.heap.size from fun k hk => by obtain ⟨G, T, h1, _⟩ := hw; exact h1.foot hk)
 clear hw x2 hF hR
 have x0 := BF2.out.at 0 rfl; have x1 := BF2.out.at 1 rfl; have x2 := BF2.out.at 2 rfl; have xz := BF2.out.lt
 have c2 := B2.out.at 2 rfl
 have fz2 := B2.out.frozen 2
 have bz2 := B2.out.lt
 go_wp2_with fail
 obtain ⟨w3, hw3⟩ : ∃ z, z = (w2.setCell ⟨f, 2, none⟩ (.int .u16 0)).alloc (.cells #[.int .i64 2, .int .i64 0] 69) := ⟨_, rfl⟩
 have T3 : Touch (fun j => j = f) w2 w3 := by rw [hw3]; exact ((Touch.refl (fun j => j = f) w2).setCell (p := ⟨f, 2, none⟩) (.inl rfl) _).alloc _
 have B3 := hide (show Blk w3 f 83 (aw14b.map (Value.int .u16)).toArray by rw [hw3]; exact Blk.over (B2.out.set_ 2 (.int .u16 0)))
 have BF3 := hide (BF2.out.touch T3 (by omega))
 have C3 := hide (show RowC w3 (some ⟨w2.heap.size, 0, none⟩) [(2, 0)] by rw [hw3]; exact rowc_one (Blk.new_ (by simp)))
 have HW3 := hide (HW.out.touch T3 (fun k hk e => by have := HFb.out k hk; omega) (fun k hk e => by have := HRb.out k hk; omega))
 have X3 := hide (X2.out.of_below (T3.to_below (B := w.heap.size) (by omega) (fun j e => by omega)) (by omega))
 have z3 := T3.size
 rw [← hw3]
 clear hw3 T3 x0 x1 x2 xz c2 fz2 bz2
 have HU := upd_any HW3.out 12 (row16_blk B3.out) aw14ub (cs := [(2, 0)]) 1 C3.out (by decide) (by decide) (by rw [aw14g2]; decide)
 refine HU.mono ?_
 clear HU
 rintro e w4 hu
 rcases hu with ⟨h, _⟩ | ⟨_, v4, p4, R4, rfl, o4, hw4, hb4, hF4, t4, hR4⟩
 ·exact absurd aw14u1 h
 rw [aw14cnt, aw14t1] at o4
 have O4 := hide o4
 have HW4 := hide hw4
 have HB4 := hide hb4
 have HF4 := hide (show ∀ k, p4.F k → f + 1 < k from fun k hk => HFb.out k ((hF4 k).1 hk))
 have HFv := hide (show ∀ k, p4.F k → k < w2.heap.size from fun k hk => HFu.out k ((hF4 k).1 hk))
 have HR4 := hide (show ∀ k, R4 k → f + 1 < k from fun k hk => (hR4 k hk).elim (HRb.out k) (fun h => by have := BF3.out.lt; omega))
 have B4 := hide (B3.out.touch t4 (fun h => by have := HFb.out _ h; omega))
 have BF4 := hide (BF3.out.touch t4 (fun h => by have := HFb.out _ h; omega))
 have X4 := hide (X3.out.of_below (t4.to_below (B := w.heap.size) (by omega) (fun k hk => by have := HFb.out k hk; omega)) (by omega))
 have z4 := t4.size
 clear o4 hw4 hb4 hF4 t4 hR4
 have x0 := BF4.out.at 0 rfl; have x1 := BF4.out.at 1 rfl; have x2 := BF4.out.at 2 rfl; have xz := BF4.out.lt
 have c2 := B4.out.at 11 rfl
 have fz2 := B4.out.frozen 11
 have bz2 := B4.out.lt
 go_wp2_with fail
 obtain ⟨w5, hw5⟩ : ∃ z, z = (w4.setCell ⟨f, 11, none⟩ (.int .u16 5)).alloc (.cells #[.int .i64 5, .int .i64 1] 69) := ⟨_, rfl⟩
 have T5 : Touch (fun j => j = f) w4 w5 := by rw [hw5]; exact ((Touch.refl (fun j => j = f) w4).setCell (p := ⟨f, 11, none⟩) (.inl rfl) _).alloc _
 have B5 := hide (show Blk w5 f 83 (aw14c.map (Value.int .u16)).toArray by rw [hw5]; exact Blk.over (B4.out.set_ 11 (.int .u16 5)))
 have C5 := hide (show RowC w5 (some ⟨w4.heap.size, 0, none⟩) [(5, 1)] by rw [hw5]; exact rowc_one (Blk.new_ (by simp)))
 have HW5 := hide (HW4.out.touch T5 (fun k hk e => by have := HF4.out k hk; omega) (fun k hk e => by have := HR4.out k hk; omega))
 have O5 := hide (O4.out.touch T5 (fun k hk e => by have := (own_lt O4.out hk).1; omega))
 have X5 := hide (X4.out.of_below (T5.to_below (B := w.heap.size) (by omega) (fun j e => by omega)) (by omega))
 have z5 := T5.size
 rw [← hw5]
 clear hw5 T5 x0 x1 x2 xz c2 fz2 bz2
 have HU := upd_any HW5.out 12 (row16_blk B5.out) aw14uc (cs := [(5, 1)]) 1 C5.out (by decide) (by decide) (by rw [aw14g3]; decide)
 rw [HB4.out] at HU
 refine HU.mono ?_
 clear HU
 rintro e w6 hu
 rcases hu with ⟨h, _⟩ | ⟨_, v6, p6, R6, rfl, o6, hw6, hb6, hF6, t6, hR6⟩
 ·exact absurd aw14u2 h
 rw [aw14cnt, aw14t2] at o6
 have O6 := hide o6
 obtain ⟨G6, T6, st6, fu6⟩ := hw6
 have HG6 := rdGates_any st6 fu6.gates
 rw [hb6, HB4.out, aw14g3] at HG6
 have HG6 := hide HG6
 have O56 := hide (O5.out.touch t6 (fun k hk h => by
  have h1 := (own_lt O5.out hk).1
  have h2 := HFv.out k h
  omega))
 have X6 := hide (X5.out.of_below (t6.to_below (B := w.heap.size) (by omega) (fun k hk => by have := HF4.out k hk; omega)) (by omega))
 obtain ⟨a4, c4, rfl⟩ := O4.out.slice
 obtain ⟨a6, c6, rfl⟩ := o6.slice
 clear o6 hb6 hF6 t6 hR6 st6 fu6
 go_wp2_with fail
 refine (HG6.out).mono ?_
 rintro e w7 ⟨v7, rfl, x7, o7⟩
 obtain ⟨a7, c7, rfl⟩ := o7.slice
 have O7 := hide o7
 have P4 := hide (O56.out.ext x7)
 have P6 := hide (O6.out.ext x7)
 have X7 := hide (X6.out.trans x7)
 clear x7 o7 HG6
 go_wp2_with fail
 have R1 := hide (fun (w' : World) (x : Ext w7 w') => (P4.out.ext x).reads)
 have xa : Ext w7 (w7.alloc (.cells #[.int .i64 0, .int .i64 1] 3)) := (Ext.refl _).alloc _
 refine (ints14_any (.slice a4 2 c4) (.slice (some ⟨w7.heap.size, 0, none⟩) 2 2) [0, 1] [0, 1] _ (by decide) (by decide) (R1.out _ xa) (reads_int (l := [0, 1]) (Blk.new_ rfl))).mono ?_
 rintro e w8 ⟨rfl, x8⟩
 have X78 := hide (xa.trans x8)
 clear xa x8
 go_wp2_with fail
 have xb : Ext w7 (w8.alloc (.cells #[.int .i64 2] 3)) := X78.out.trans ((Ext.refl _).alloc _)
 refine (ints14_any (.slice a6 1 c6) (.slice (some ⟨w8.heap.size, 0, none⟩) 1 1) [2] [2] _ (by decide) (by decide) (P6.out.ext xb).reads (reads_int (l := [2]) (Blk.new_ rfl))).mono ?_
 rintro e w9 ⟨rfl, x9⟩
 have X79 := hide (xb.trans x9)
 clear xb x9
 have O9 := hide (O7.out.ext X79.out)
 obtain ⟨g, hg, zg, q0, q1, q2, q3⟩ := own_gate_at O9.out (j := 0) rfl
 obtain ⟨g', hg', zg', r0, r1, r2, r3⟩ := own_gate_at O9.out (j := 1) rfl
 subst hg
 obtain rfl : g = g' := by injection hg' with h; injection h
 simp only at q0 q1 q2 q3 r0 r1 r2 r3
 have hq1 : ∀ w, (Op.equalIn 10000 69 (.agg #[.int .i64 1, .int .i64 1]) (.agg #[.int .i64 1, .int .i64 1])).run Tryz.prog w = .ok true w := fun w => eq_cell (1, 1) (1, 1) w
 have hq2 : ∀ w, (Op.equalIn 10000 69 (.agg #[.int .i64 3, .int .i64 0]) (.agg #[.int .i64 3, .int .i64 0])).run Tryz.prog w = .ok true w := fun w => eq_cell (3, 0) (3, 0) w
 clear hg'
 go_wp2_with fail
 go_ret
 exact ⟨rfl, X7.out.trans X79.out⟩
end Go.Proofs.YtkioohhjjdlhiaaGreat
