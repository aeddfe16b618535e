/- The walk of GateOf. -/
import Derived.Test.YtkioohhjjdlhiaaGateL
import Derived.Test.YtkioohhjjdlhiaaRefL
import Derived.Test.YtkioohhjjdlhiaaRefO
import Derived.Test.YtkioohhjjdlhiaaGateS
set_option linter.all false
set_option linter.unusedVariables false
set_option linter.unusedSimpArgs false
namespace Go.Proofs.Ytkioohhjjdlhiaa
open Go.RowKit

theorem acr_leG {L s : Int} (hs : 2 ≤ s) (hL : 1 ≤ L) : acr L s ≤ L := by
  unfold acr
  apply Int.ediv_le_of_le_mul (by omega)
  have := Int.mul_nonneg (show (0 : Int) ≤ L - 1 by omega) (show (0 : Int) ≤ s - 1 by omega)
  rw [Int.sub_mul, Int.mul_sub] at this
  omega
theorem cnt_leG {W H s : Int} (hr : rightB W H s = true) : cnt W H s ≤ W * H := by
  obtain ⟨h1, h2, h3, h4, h5, h6⟩ := rightB_true.1 hr
  have b1 := acr_bd W s h5 h6 h1 h2
  have b2 := acr_bd H s h5 h6 h3 h4
  unfold cnt
  exact Int.mul_le_mul (acr_leG h5 h1) (acr_leG h5 h3) (by omega) (by omega)
theorem ofG_small {l : List Int} {W H s : Int} (hr : rightB W H s = true) (hl : (l.length : Int) ≤ 260) (hm : (l.length : Int) = W * H) : (ofG l W H s (cnt W H s).toNat).length ≤ 16640 := by
  have h1 := cnt_leG hr
  have h2 := cnt_bd hr
  have h3 := ofG_len (l := l) hr (n := (cnt W H s).toNat) (by omega)
  omega

set_option maxRecDepth 100000 in
theorem go_far (W H : Int) (a : Option Addr) (n c : Nat) (pW pH s id : Int) (w : World) (hn : ¬ (n : Int) ≤ 260) :
    Calls Try.prog 3 #[.agg #[.int .i64 W, .int .i64 H, .slice a n c], .agg #[.int .i64 pW, .int .i64 pH, .int .i64 s], .int .i64 id] w fun e w' => e = .returned (.bool true) ∧ Ext w w' := by
  have hd : decide ((n : Int) ≤ 260) = false := by simpa using hn
  clear hn
  go_enter Try.func3, Try.ntmps3
  go_wp2_with (first
    | (go_at_call 4; refine (small12_any _ _ _ _ _ _).mono ?_; rintro e w1 ⟨rfl, hb1⟩; rw [hd]; obtain ⟨hc1, hf1⟩ := hb1.cells; have hz1 := hb1.size; (repeat (first | rw [World.size_alloc] at hz1 | rw [World.size_drew] at hz1)); have z1_0 : w.heap.size < w1.heap.size := (by omega); have z1_1 : w.heap.size + 1 < w1.heap.size := (by omega))
    | (go_at_call 5; refine (awake12_any _).mono ?_; rintro e w2 ⟨rfl, hb2⟩; obtain ⟨hc2, hf2⟩ := hb2.cells; have hz2 := hb2.size; (repeat (first | rw [World.size_alloc] at hz2 | rw [World.size_drew] at hz2))))
  go_ret
  exact ⟨rfl, (by (with_reducible (repeat' (first | exact Ext.refl _ | assumption | refine Ext.drew ?_ | refine Ext.drewN ?_ _ | refine Ext.alloc ?_ _ | refine Ext.setCell ?_ ?_ _ | refine Ext.trans ?_ (by assumption)))); all_goals (first | (simp; done) | (simp; omega)))⟩

set_option maxRecDepth 100000 in
set_option maxHeartbeats 1000000 in
theorem go_bad (W H : Int) (a : Option Addr) (l : List Int) (c : Nat) (pW pH s id er : Int) (w : World) (hn : (l.length : Int) ≤ 260) (hr : Row16 w a l) (h0 : er ≠ 0) (hm : mayE W H pW pH s l.length = er) (he : ofErr W H pW pH s l.length = er) (hl : ofAll l W H pW pH s = []) :
    Calls Try.prog 3 #[.agg #[.int .i64 W, .int .i64 H, .slice a l.length c], .agg #[.int .i64 pW, .int .i64 pH, .int .i64 s], .int .i64 id] w fun e w' => e = .returned (.bool true) ∧ Ext w w' := by
  have hd : decide ((l.length : Int) ≤ 260) = true := by simpa using hn
  have q1 : (er == 0) = false := by simpa using h0
  have q2 : (er != 0) = true := by simpa using h0
  have HG := hide (fun (w' : World) (x : Ext w w') => gtOf_any W H a l c pW pH s w' (hr.ext x))
  rw [he, hl] at HG
  have HM := hide hm
  clear hn hm h0 he hl hr
  go_enter Try.func3, Try.ntmps3
  go_wp2_with (first
    | (go_at_call 4; refine (small12_any _ _ _ _ _ _).mono ?_; rintro e w1 ⟨rfl, hb1⟩; rw [hd]; obtain ⟨hc1, hf1⟩ := hb1.cells; have hz1 := hb1.size; (repeat (first | rw [World.size_alloc] at hz1 | rw [World.size_drew] at hz1)); have z1_0 : w.heap.size < w1.heap.size := (by omega); have z1_1 : w.heap.size + 1 < w1.heap.size := (by omega))
    | (go_at_call 6; refine (HG.out _ (by (with_reducible (repeat' (first | exact Ext.refl _ | assumption | refine Ext.drew ?_ | refine Ext.drewN ?_ _ | refine Ext.alloc ?_ _ | refine Ext.setCell ?_ ?_ _ | refine Ext.trans ?_ (by assumption)))); all_goals (first | (simp; done) | (simp; omega)))).mono ?_; rintro e w2 ⟨v2, rfl, hb2, hv2⟩; obtain ⟨a2, c2, rfl⟩ := hv2.slice; clear hv2; obtain ⟨hc2, hf2⟩ := hb2.cells; have hz2 := hb2.size; (repeat (first | rw [World.size_alloc] at hz2 | rw [World.size_drew] at hz2)); have z2_0 : w.heap.size < w2.heap.size := (by omega); have z2_1 : w.heap.size + 1 < w2.heap.size := (by omega))
    | (go_at_call 7; refine (may12_any _ _ _ _ _ _ _ _ _).mono ?_; rintro e w3 ⟨rfl, hb3⟩; rw [HM.out]; obtain ⟨hc3, hf3⟩ := hb3.cells; have hz3 := hb3.size; (repeat (first | rw [World.size_alloc] at hz3 | rw [World.size_drew] at hz3)); have z3_0 : w.heap.size < w3.heap.size := (by omega); have z3_1 : w.heap.size + 1 < w3.heap.size := (by omega))
    | (go_at_call 5; refine (awake12_any _).mono ?_; rintro e w4 ⟨rfl, hb4⟩; obtain ⟨hc4, hf4⟩ := hb4.cells; have hz4 := hb4.size; (repeat (first | rw [World.size_alloc] at hz4 | rw [World.size_drew] at hz4))))
  go_ret
  exact ⟨rfl, (by (with_reducible (repeat' (first | exact Ext.refl _ | assumption | refine Ext.drew ?_ | refine Ext.drewN ?_ _ | refine Ext.alloc ?_ _ | refine Ext.setCell ?_ ?_ _ | refine Ext.trans ?_ (by assumption)))); all_goals (first | (simp; done) | (simp; omega)))⟩

set_option maxRecDepth 100000 in
set_option maxHeartbeats 2000000 in
theorem go_range (W H : Int) (a : Option Addr) (l : List Int) (c : Nat) (s id : Int) (N : Nat) (w : World) (hn : (l.length : Int) ≤ 260) (hc0 : checkE W H l.length = 0) (hr : Row16 w a l) (hu : U16s l) (ht : rightB W H s = true) (hN : (boxesAll W H s).length = N) (hid : id < 0 ∨ (N : Int) ≤ id) :
    Calls Try.prog 3 #[.agg #[.int .i64 W, .int .i64 H, .slice a l.length c], .agg #[.int .i64 W, .int .i64 H, .int .i64 s], .int .i64 id] w fun e w' => e = .returned (.bool true) ∧ Ext w w' := by
  have hd : decide ((l.length : Int) ≤ 260) = true := by simpa using hn
  have hNc : cnt W H s = (N : Int) := by rw [← boxesAll_len ht, hN]
  obtain ⟨m1, m2⟩ := checkE_ok.1 hc0
  have hG0 : gateE W H W H l.length = 0 := by simp [gateE, hc0]
  have HG := hide (fun (w' : World) (x : Ext w w') => gtOf_yes W H a l c s w' hc0 (hr.ext x) ht)
  have HF := hide (fun (w' : World) (x : Ext w w') => r12Of_any W H a l c s N w' m1 m2 (hr.ext x) hu ht hN)
  rw [refAll_eq ht hNc] at HF
  have hln := ofG_small (l := l) ht hn m2
  generalize ofG l W H s (cnt W H s).toNat = G at *
  have HLN := hide (show G.length ≤ 1000000 by omega)
  have HM := hide (show mayE W H W H s l.length = 0 by simp [mayE, hc0, ht])
  have hE : hasE W H s [id] = 10 := by
    unfold hasE
    rw [ht]
    have hb : bad W H s id = true := by unfold bad; rw [hNc]; rcases hid with h | h <;> simp [h]
    simp [hb]
  have hE' : (hasE W H s [id] != 0) = true := by rw [hE]; rfl
  have C1 := hide (fun (w : World) (v : Value) => gtCells_no W H s id v w hE')
  rw [hE] at C1
  have HR := hide ht
  have HN := hide hN
  clear hn hc0 hr hu ht hN hNc m1 m2 hG0 hln hE hE'
  rcases hid with hid | hid
  all_goals
    go_enter Try.func3, Try.ntmps3
    go_wp2_with (first
      | (go_at_call 4; refine (small12_any _ _ _ _ _ _).mono ?_; rintro e w1 ⟨rfl, hb1⟩; rw [hd]; obtain ⟨hc1, hf1⟩ := hb1.cells; have hz1 := hb1.size; (repeat (first | rw [World.size_alloc] at hz1 | rw [World.size_drew] at hz1)); have z1_0 : w.heap.size < w1.heap.size := (by omega); have z1_1 : w.heap.size + 1 < w1.heap.size := (by omega))
      | (go_at_call 6; refine (HG.out _ (by (with_reducible (repeat' (first | exact Ext.refl _ | assumption | refine Ext.drew ?_ | refine Ext.drewN ?_ _ | refine Ext.alloc ?_ _ | refine Ext.setCell ?_ ?_ _ | refine Ext.trans ?_ (by assumption)))); all_goals (first | (simp; done) | (simp; omega)))).mono ?_; rintro e w2 ⟨v2, rfl, hb2, hv2⟩; have O2 := hide hv2; obtain ⟨hc2, hf2⟩ := hb2.cells; have hz2 := hb2.size; (repeat (first | rw [World.size_alloc] at hz2 | rw [World.size_drew] at hz2)); have z2_0 : w.heap.size < w2.heap.size := (by omega); have z2_1 : w.heap.size + 1 < w2.heap.size := (by omega); clear hv2)
      | (go_at_call 7; refine (may12_any _ _ _ _ _ _ _ _ _).mono ?_; rintro e w3 ⟨rfl, hb3⟩; rw [HM.out]; obtain ⟨hc3, hf3⟩ := hb3.cells; have hz3 := hb3.size; (repeat (first | rw [World.size_alloc] at hz3 | rw [World.size_drew] at hz3)); have z3_0 : w.heap.size < w3.heap.size := (by omega); have z3_1 : w.heap.size + 1 < w3.heap.size := (by omega))
      | (go_at_call 8; refine (HF.out _ (by (with_reducible (repeat' (first | exact Ext.refl _ | assumption | refine Ext.drew ?_ | refine Ext.drewN ?_ _ | refine Ext.alloc ?_ _ | refine Ext.setCell ?_ ?_ _ | refine Ext.trans ?_ (by assumption)))); all_goals (first | (simp; done) | (simp; omega)))).mono ?_; rintro e w4 ⟨v4, rfl, hb4, hv4⟩; have O4 := hide hv4; obtain ⟨hc4, hf4⟩ := hb4.cells; have hz4 := hb4.size; (repeat (first | rw [World.size_alloc] at hz4 | rw [World.size_drew] at hz4)); have z4_0 : w.heap.size < w4.heap.size := (by omega); have z4_1 : w.heap.size + 1 < w4.heap.size := (by omega); clear hv4)
      | (go_at_call 9; refine (same12_any _ _ G _ HLN.out ((O2.out.reads.ext hb3).ext hb4) O4.out.reads).mono ?_; rintro e w5 ⟨rfl, hb5⟩; obtain ⟨hc5, hf5⟩ := hb5.cells; have hz5 := hb5.size; (repeat (first | rw [World.size_alloc] at hz5 | rw [World.size_drew] at hz5)); have z5_0 : w.heap.size < w5.heap.size := (by omega); have z5_1 : w.heap.size + 1 < w5.heap.size := (by omega))
      | (go_at_call 10; refine (C1.out _ _).mono ?_; rintro e w6 ⟨rfl, hb6⟩; obtain ⟨hc6, hf6⟩ := hb6.cells; have hz6 := hb6.size; (repeat (first | rw [World.size_alloc] at hz6 | rw [World.size_drew] at hz6)); have z6_0 : w.heap.size < w6.heap.size := (by omega); have z6_1 : w.heap.size + 1 < w6.heap.size := (by omega))
      | (go_at_call 11; refine (rBoxes_any _ _ _ _ HR.out).mono ?_; rintro e w7 ⟨v7, rfl, hb7, hv7⟩; obtain ⟨a7, c7, rfl⟩ := hv7.slice; rw [show (boxesR W H s (acr H s).toNat).length = N from HN.out]; clear hv7; obtain ⟨hc7, hf7⟩ := hb7.cells; have hz7 := hb7.size; (repeat (first | rw [World.size_alloc] at hz7 | rw [World.size_drew] at hz7)); have z7_0 : w.heap.size < w7.heap.size := (by omega); have z7_1 : w.heap.size + 1 < w7.heap.size := (by omega))
      | (go_at_call 5; refine (awake12_any _).mono ?_; rintro e w8 ⟨rfl, hb8⟩; obtain ⟨hc8, hf8⟩ := hb8.cells; have hz8 := hb8.size; (repeat (first | rw [World.size_alloc] at hz8 | rw [World.size_drew] at hz8))))
    all_goals first | (go_ret; exact ⟨rfl, (by (with_reducible (repeat' (first | exact Ext.refl _ | assumption | refine Ext.drew ?_ | refine Ext.drewN ?_ _ | refine Ext.alloc ?_ _ | refine Ext.setCell ?_ ?_ _ | refine Ext.trans ?_ (by assumption)))); all_goals (first | (simp; done) | (simp; omega)))⟩) | (exfalso; omega)

set_option maxRecDepth 100000 in
set_option maxHeartbeats 2000000 in
theorem go_main (W H : Int) (a : Option Addr) (l : List Int) (c : Nat) (s : Int) (k N : Nat) (w : World) (hn : (l.length : Int) ≤ 260) (hc0 : checkE W H l.length = 0) (hr : Row16 w a l) (hu : U16s l) (ht : rightB W H s = true) (hN : (boxesAll W H s).length = N) (hid : k < N) :
    Calls Try.prog 3 #[.agg #[.int .i64 W, .int .i64 H, .slice a l.length c], .agg #[.int .i64 W, .int .i64 H, .int .i64 s], .int .i64 (k : Int)] w fun e w' => e = .returned (.bool true) ∧ Ext w w' := by
  have hd : decide ((l.length : Int) ≤ 260) = true := by simpa using hn
  have hNc : cnt W H s = (N : Int) := by rw [← boxesAll_len ht, hN]
  have hkc : (k : Int) < cnt W H s := by omega
  have hkN : (k : Int) < (N : Int) := by omega
  obtain ⟨m1, m2⟩ := checkE_ok.1 hc0
  have HG := hide (fun (w' : World) (x : Ext w w') => gtOf_yes W H a l c s w' hc0 (hr.ext x) ht)
  have HF := hide (fun (w' : World) (x : Ext w w') => r12Of_any W H a l c s N w' m1 m2 (hr.ext x) hu ht hN)
  rw [refAll_eq ht hNc] at HF
  have hln := ofG_small (l := l) ht hn m2
  generalize ofG l W H s (cnt W H s).toNat = G at *
  have HLN := hide (show G.length ≤ 16640 by omega)
  have HM := hide (show mayE W H W H s l.length = 0 by simp [mayE, hc0, ht])
  have C1 := hide (fun (w' : World) (g : Option Addr) (cg : Nat) (o : Reads pairE w' (.slice g G.length cg) G) => gtCells_yes W H s (k : Int) g cg G w' ht (by omega) hkc (by omega) (fun _ => o))
  have hbd := box_bd ht (show (0 : Int) ≤ (k : Int) by omega) hkc
  have hsz := box_sz ht (show (0 : Int) ≤ (k : Int) by omega) hkc
  obtain ⟨r1, r2, r3, r4, r5, r6⟩ := rightB_true.1 ht
  have HBX := hide (boxesAll_at ht k hkc)
  have HCL := hide (show cellsL W H s (k : Int) G = cellsB (boxX W s (k : Int)) (boxY W s (k : Int)) (boxW W s (k : Int)) (boxH W H s (k : Int)) G from rfl)
  have HCLn := hide (cellsL_len ht (show (0 : Int) ≤ (k : Int) by omega) hkc G)
  have HBP := hide (show boxP W H s (k : Int) = ((boxX W s (k : Int), boxY W s (k : Int)), (boxW W s (k : Int), boxH W H s (k : Int))) from rfl)
  generalize boxX W s (k : Int) = bx at *
  generalize boxY W s (k : Int) = byy at *
  generalize boxW W s (k : Int) = bw at *
  generalize boxH W H s (k : Int) = bh at *
  rw [HBP.out] at HBX
  have HC := hide (fun (w' : World) (v : Value) (o : Reads pairE w' v G) => r12Cells_any G v bx byy bw bh w' (by omega) o (by omega) (by omega) (by omega) (by omega))
  generalize hZ : cellsL W H s (k : Int) G = Z at *
  rw [← HCL.out] at HC
  have HZ := hide hZ
  have HR := hide ht
  have HN := hide hN
  clear hn hc0 hr hu ht hN hNc m1 m2 hln hkc hbd hsz r1 r2 r3 r4 r5 r6 HBP HCL hZ hid
  go_enter Try.func3, Try.ntmps3
  go_wp2_with (first
    | (go_at_call 4; refine (small12_any _ _ _ _ _ _).mono ?_; rintro e w1 ⟨rfl, hb1⟩; rw [hd]; obtain ⟨hc1, hf1⟩ := hb1.cells; have hz1 := hb1.size; (repeat (first | rw [World.size_alloc] at hz1 | rw [World.size_drew] at hz1)); have z1_0 : w.heap.size < w1.heap.size := (by omega); have z1_1 : w.heap.size + 1 < w1.heap.size := (by omega))
    | (go_at_call 6; refine (HG.out _ (by (with_reducible (repeat' (first | exact Ext.refl _ | assumption | refine Ext.drew ?_ | refine Ext.drewN ?_ _ | refine Ext.alloc ?_ _ | refine Ext.setCell ?_ ?_ _ | refine Ext.trans ?_ (by assumption)))); all_goals (first | (simp; done) | (simp; omega)))).mono ?_; rintro e w2 ⟨v2, rfl, hb2, hv2⟩; obtain ⟨a2, c2, rfl⟩ := hv2.slice; have O2 := hide hv2; obtain ⟨hc2, hf2⟩ := hb2.cells; have hz2 := hb2.size; (repeat (first | rw [World.size_alloc] at hz2 | rw [World.size_drew] at hz2)); have z2_0 : w.heap.size < w2.heap.size := (by omega); have z2_1 : w.heap.size + 1 < w2.heap.size := (by omega); clear hv2)
    | (go_at_call 7; refine (may12_any _ _ _ _ _ _ _ _ _).mono ?_; rintro e w3 ⟨rfl, hb3⟩; rw [HM.out]; obtain ⟨hc3, hf3⟩ := hb3.cells; have hz3 := hb3.size; (repeat (first | rw [World.size_alloc] at hz3 | rw [World.size_drew] at hz3)); have z3_0 : w.heap.size < w3.heap.size := (by omega); have z3_1 : w.heap.size + 1 < w3.heap.size := (by omega))
    | (go_at_call 8; refine (HF.out _ (by (with_reducible (repeat' (first | exact Ext.refl _ | assumption | refine Ext.drew ?_ | refine Ext.drewN ?_ _ | refine Ext.alloc ?_ _ | refine Ext.setCell ?_ ?_ _ | refine Ext.trans ?_ (by assumption)))); all_goals (first | (simp; done) | (simp; omega)))).mono ?_; rintro e w4 ⟨v4, rfl, hb4, hv4⟩; have O4 := hide hv4; obtain ⟨hc4, hf4⟩ := hb4.cells; have hz4 := hb4.size; (repeat (first | rw [World.size_alloc] at hz4 | rw [World.size_drew] at hz4)); have z4_0 : w.heap.size < w4.heap.size := (by omega); have z4_1 : w.heap.size + 1 < w4.heap.size := (by omega); clear hv4)
    | (go_at_call 9; refine (same12_any _ _ G _ (by have := HLN.out; omega) ((O2.out.reads.ext hb3).ext hb4) O4.out.reads).mono ?_; rintro e w5 ⟨rfl, hb5⟩; obtain ⟨hc5, hf5⟩ := hb5.cells; have hz5 := hb5.size; (repeat (first | rw [World.size_alloc] at hz5 | rw [World.size_drew] at hz5)); have z5_0 : w.heap.size < w5.heap.size := (by omega); have z5_1 : w.heap.size + 1 < w5.heap.size := (by omega))
    | (go_at_call 10; refine (C1.out _ _ _ (((O2.out.reads.ext hb3).ext hb4).ext hb5)).mono ?_; rintro e w6 ⟨v6, rfl, hb6, hv6⟩; obtain ⟨a6, c6, rfl⟩ := hv6.slice; have O6 := hide hv6; obtain ⟨hc6, hf6⟩ := hb6.cells; have hz6 := hb6.size; (repeat (first | rw [World.size_alloc] at hz6 | rw [World.size_drew] at hz6)); have z6_0 : w.heap.size < w6.heap.size := (by omega); have z6_1 : w.heap.size + 1 < w6.heap.size := (by omega); clear hv6)
    | (go_at_call 11; refine (rBoxes_any _ _ _ _ HR.out).mono ?_; rintro e w7 ⟨v7, rfl, hb7, hv7⟩; obtain ⟨a7, c7, rfl⟩ := hv7.slice; rw [show (boxesR W H s (acr H s).toNat).length = N from HN.out] at hv7 ⊢; obtain ⟨g7, rfl, z7, b0, b1, b2, b3⟩ := own_gate_at hv7 HBX.out; simp only at b0 b1 b2 b3; obtain ⟨hc7, hf7⟩ := hb7.cells; have hz7 := hb7.size; (repeat (first | rw [World.size_alloc] at hz7 | rw [World.size_drew] at hz7)); have z7_0 : w.heap.size < w7.heap.size := (by omega); have z7_1 : w.heap.size + 1 < w7.heap.size := (by omega); clear hv7)
    | (go_at_call 13; refine (HC.out _ _ ((O4.out.reads.ext ((hb5.trans hb6).trans hb7)).ext (by (with_reducible (repeat' (first | exact Ext.refl _ | assumption | refine Ext.drew ?_ | refine Ext.drewN ?_ _ | refine Ext.alloc ?_ _ | refine Ext.setCell ?_ ?_ _ | refine Ext.trans ?_ (by assumption)))); all_goals (first | (simp; done) | (simp; omega))))).mono ?_; rintro e w8 ⟨v8, rfl, hb8, hv8⟩; obtain ⟨a8, c8, rfl⟩ := hv8.slice; have O8 := hide hv8.reads; have X8 := hide hb8; clear hv8 hb8)
    | (go_at_call 12; refine (cells12_same _ _ Z _ (by have := HCLn.out; omega) ((O6.out.reads.ext hb7).ext X8.out) O8.out).mono ?_; rintro e w9 ⟨rfl, x9⟩; have X9 := hide x9; clear x9)
    | (go_at_call 5; refine (awake12_any _).mono ?_; rintro e w10 ⟨rfl, hb10⟩; obtain ⟨hc10, hf10⟩ := hb10.cells; have hz10 := hb10.size; (repeat (first | rw [World.size_alloc] at hz10 | rw [World.size_drew] at hz10))))
  all_goals first | (go_ret; exact ⟨rfl, ((Ext.trans (by (with_reducible (repeat' (first | exact Ext.refl _ | assumption | refine Ext.drew ?_ | refine Ext.drewN ?_ _ | refine Ext.alloc ?_ _ | refine Ext.setCell ?_ ?_ _ | refine Ext.trans ?_ (by assumption)))); all_goals (first | (simp; done) | (simp; omega))) X8.out).trans X9.out).trans (by (with_reducible (repeat' (first | exact Ext.refl _ | assumption | refine Ext.drew ?_ | refine Ext.drewN ?_ _ | refine Ext.alloc ?_ _ | refine Ext.setCell ?_ ?_ _ | refine Ext.trans ?_ (by assumption)))); all_goals (first | (simp; done) | (simp; omega)))⟩) | (exfalso; omega)
end Go.Proofs.Ytkioohhjjdlhiaa
