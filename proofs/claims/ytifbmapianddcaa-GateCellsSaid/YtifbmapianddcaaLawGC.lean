/- The walk of GateCells. -/
import Derived.Test.YtifbmapianddcaaGateL
import Derived.Test.YtifbmapianddcaaRefL
import Derived.Test.YtifbmapianddcaaArgG
import Derived.Test.YtifbmapianddcaaAwake12
set_option linter.all false
set_option linter.unusedVariables false
set_option linter.unusedSimpArgs false
namespace Go.Proofs.Ytifbmapianddcaa
open Go.RowKit

set_option maxRecDepth 100000 in
theorem gc_long (W H s : Int) (a : Option Addr) (n c : Nat) (id : Int) (w : World) (h : (60 : Int) < (n : Int)) :
    Calls Try.prog 14 #[.agg #[.int .i64 W, .int .i64 H, .int .i64 s], .slice a n c, .int .i64 id] w fun e w' => e = .returned (.bool true) ∧ Ext w w' := by
  go_enter Try.func14, Try.ntmps14
  go_wp2_with (go_at_call 57; refine (awake12_any _).mono ?_; rintro e w4 ⟨rfl, hb4⟩; obtain ⟨hc4, hf4⟩ := hb4.cells; have hz4 := hb4.size; (repeat (first | rw [World.size_alloc] at hz4 | rw [World.size_drew] at hz4)))
  go_ret
  exact ⟨rfl, (by (with_reducible (repeat' (first | exact Ext.refl _ | assumption | refine Ext.drew ?_ | refine Ext.drewN ?_ _ | refine Ext.alloc ?_ _ | refine Ext.setCell ?_ ?_ _ | refine Ext.trans ?_ (by assumption)))); all_goals (first | (simp; done) | (simp; omega)))⟩

set_option maxRecDepth 100000 in
theorem gc_cut (W H s : Int) (a : Option Addr) (n c : Nat) (id : Int) (w : World) (h : (n : Int) ≤ 60) (hr : rightB W H s = false) :
    Calls Try.prog 14 #[.agg #[.int .i64 W, .int .i64 H, .int .i64 s], .slice a n c, .int .i64 id] w fun e w' => e = .returned (.bool true) ∧ Ext w w' := by
  have hE : hasE W H s [id] = 1 := by unfold hasE; rw [hr]; rfl
  have hE' : (hasE W H s [id] != 0) = true := by rw [hE]; rfl
  have C1 := hide (fun (w : World) => gtCells_no W H s id (.slice a n c) w hE')
  rw [hE] at C1
  have HR := hide hr
  clear hE hE' hr
  go_enter Try.func14, Try.ntmps14
  go_wp2_with (first
    | (go_at_call 59; refine (C1.out _).mono ?_; rintro e w3 ⟨rfl, hb3⟩; obtain ⟨hc3, hf3⟩ := hb3.cells; have hz3 := hb3.size; (repeat (first | rw [World.size_alloc] at hz3 | rw [World.size_drew] at hz3)); have X3 := hide hb3; clear hb3)
    | (go_at_call 60; refine (rRight_any W H s _).mono ?_; rintro e w5 ⟨rfl, hb5⟩; rw [HR.out]; have X5 := hide hb5; clear hb5)
    | (go_at_call 57; refine (awake12_any _).mono ?_; rintro e w4 ⟨rfl, hb4⟩; obtain ⟨hc4, hf4⟩ := hb4.cells; have hz4 := hb4.size; (repeat (first | rw [World.size_alloc] at hz4 | rw [World.size_drew] at hz4))))
  go_ret
  exact ⟨rfl, ((Ext.trans (by (with_reducible (repeat' (first | exact Ext.refl _ | assumption | refine Ext.drew ?_ | refine Ext.drewN ?_ _ | refine Ext.alloc ?_ _ | refine Ext.setCell ?_ ?_ _ | refine Ext.trans ?_ (by assumption)))); all_goals (first | (simp; done) | (simp; omega))) X3.out).trans X5.out).trans (by (with_reducible (repeat' (first | exact Ext.refl _ | assumption | refine Ext.drew ?_ | refine Ext.drewN ?_ _ | refine Ext.alloc ?_ _ | refine Ext.setCell ?_ ?_ _ | refine Ext.trans ?_ (by assumption)))); all_goals (first | (simp; done) | (simp; omega)))⟩

set_option maxRecDepth 100000 in
theorem gc_range (W H s : Int) (a : Option Addr) (n c : Nat) (id : Int) (w : World) (h : (n : Int) ≤ 60) (hr : rightB W H s = true) (hid : id < 0 ∨ cnt W H s ≤ id) :
    Calls Try.prog 14 #[.agg #[.int .i64 W, .int .i64 H, .int .i64 s], .slice a n c, .int .i64 id] w fun e w' => e = .returned (.bool true) ∧ Ext w w' := by
  have hE : hasE W H s [id] = 10 := by
    unfold hasE
    rw [hr]
    have hb : bad W H s id = true := by unfold bad; rcases hid with h | h <;> simp [h]
    simp [hb]
  have hE' : (hasE W H s [id] != 0) = true := by rw [hE]; rfl
  have C1 := hide (fun (w : World) => gtCells_no W H s id (.slice a n c) w hE')
  rw [hE] at C1
  have HR := hide hr
  have b0 := cnt_bd hr
  have HL := hide (boxesAll_len hr)
  obtain ⟨N, hN⟩ : ∃ N : Nat, (boxesAll W H s).length = N := ⟨_, rfl⟩
  have HN := hide hN
  have hNc : cnt W H s = (N : Int) := by rw [← HL.out, hN]
  rw [hNc] at hid
  clear hE hE' hr hN hNc
  rcases hid with hid | hid
  all_goals
    go_enter Try.func14, Try.ntmps14
    go_wp2_with (first
      | (go_at_call 59; refine (C1.out _).mono ?_; rintro e w3 ⟨rfl, hb3⟩; obtain ⟨hc3, hf3⟩ := hb3.cells; have hz3 := hb3.size; (repeat (first | rw [World.size_alloc] at hz3 | rw [World.size_drew] at hz3)); have z3_0 : w.heap.size < w3.heap.size := (by omega); have X3 := hide hb3; clear hb3)
      | (go_at_call 60; refine (rRight_any W H s _).mono ?_; rintro e w5 ⟨rfl, hb5⟩; rw [HR.out]; obtain ⟨hc5, hf5⟩ := hb5.cells; have hz5 := hb5.size; (repeat (first | rw [World.size_alloc] at hz5 | rw [World.size_drew] at hz5)); have z5_0 : w.heap.size < w5.heap.size := (by omega); have X5 := hide hb5; clear hb5)
      | (go_at_call 28; refine (rBoxes_any _ _ _ _ HR.out).mono ?_; rintro e w6 ⟨v6, rfl, hb6, hv6⟩; obtain ⟨a6, c6, rfl⟩ := hv6.slice; rw [show (boxesR W H s (acr H s).toNat).length = N from HN.out]; have X6 := hide hb6; clear hb6 hv6)
      | (go_at_call 57; refine (awake12_any _).mono ?_; rintro e w4 ⟨rfl, hb4⟩; obtain ⟨hc4, hf4⟩ := hb4.cells; have hz4 := hb4.size; (repeat (first | rw [World.size_alloc] at hz4 | rw [World.size_drew] at hz4))))
    go_ret
    exact ⟨rfl, (((Ext.trans (by (with_reducible (repeat' (first | exact Ext.refl _ | assumption | refine Ext.drew ?_ | refine Ext.drewN ?_ _ | refine Ext.alloc ?_ _ | refine Ext.setCell ?_ ?_ _ | refine Ext.trans ?_ (by assumption)))); all_goals (first | (simp; done) | (simp; omega))) X3.out).trans X5.out).trans X6.out).trans (by (with_reducible (repeat' (first | exact Ext.refl _ | assumption | refine Ext.drew ?_ | refine Ext.drewN ?_ _ | refine Ext.alloc ?_ _ | refine Ext.setCell ?_ ?_ _ | refine Ext.trans ?_ (by assumption)))); all_goals (first | (simp; done) | (simp; omega)))⟩

set_option maxRecDepth 100000 in
set_option maxHeartbeats 1500000 in
theorem gc_main (W H s : Int) (a : Option Addr) (c : Nat) (L : List (Cell × Cell)) (id : Int) (w : World) (h : (L.length : Int) ≤ 60) (hr : rightB W H s = true) (h0 : 0 ≤ id) (hid : id < cnt W H s) (hL : 0 < L.length → Reads pairE w (.slice a L.length c) L) :
    Calls Try.prog 14 #[.agg #[.int .i64 W, .int .i64 H, .int .i64 s], .slice a L.length c, .int .i64 id] w fun e w' => e = .returned (.bool true) ∧ Ext w w' := by
  have hbd := box_bd hr h0 hid
  have hsz := box_sz hr h0 hid
  obtain ⟨r1, r2, r3, r4, r5, r6⟩ := rightB_true.1 hr
  have C1 := hide (fun (w' : World) (x : Ext w w') => gtCells_yes W H s id a c L w' hr h0 hid (by omega) (fun hp => (hL hp).ext x))
  have HR := hide hr
  have HLR := hide hL
  obtain ⟨k, rfl⟩ : ∃ k : Nat, id = (k : Int) := ⟨id.toNat, by omega⟩
  have HBX := hide (boxesAll_at hr k hid)
  have HLB := hide (boxesAll_len hr)
  obtain ⟨N, hN⟩ : ∃ N : Nat, (boxesAll W H s).length = N := ⟨_, rfl⟩
  have HN := hide hN
  have hkN : k < N := by have := HLB.out; rw [hN] at this; omega
  have hkN' : (k : Int) < (N : Int) := by omega
  have HCL := hide (show cellsL W H s (k : Int) L = cellsB (boxX W s (k : Int)) (boxY W s (k : Int)) (boxW W s (k : Int)) (boxH W H s (k : Int)) L from rfl)
  have HCLn := hide (cellsL_len hr h0 hid L)
  have HBP := hide (show boxP W H s (k : Int) = ((boxX W s (k : Int), boxY W s (k : Int)), (boxW W s (k : Int), boxH W H s (k : Int))) from rfl)
  generalize boxX W s (k : Int) = bx at *
  generalize boxY W s (k : Int) = byy at *
  generalize boxW W s (k : Int) = bw at *
  generalize boxH W H s (k : Int) = bh at *
  rw [HBP.out] at HBX
  clear hN hr hL h0 hid HLB HBP
  go_enter Try.func14, Try.ntmps14
  go_wp2_with (first
    | (go_at_call 59; refine (C1.out _ (by (with_reducible (repeat' (first | exact Ext.refl _ | assumption | refine Ext.drew ?_ | refine Ext.drewN ?_ _ | refine Ext.alloc ?_ _ | refine Ext.setCell ?_ ?_ _ | refine Ext.trans ?_ (by assumption)))); all_goals (first | (simp; done) | (simp; omega)))).mono ?_; rintro e w3 ⟨v3, rfl, hb3, ho3⟩; obtain ⟨hc3, hf3⟩ := hb3.cells; have hz3 := hb3.size; (repeat (first | rw [World.size_alloc] at hz3 | rw [World.size_drew] at hz3)); have z3_0 : w.heap.size < w3.heap.size := (by omega); obtain ⟨a3, c3, rfl⟩ := ho3.slice; have O3 := hide ho3; have X3 := hide (show Ext w w3 from Ext.trans (by (with_reducible (repeat' (first | exact Ext.refl _ | assumption | refine Ext.drew ?_ | refine Ext.drewN ?_ _ | refine Ext.alloc ?_ _ | refine Ext.setCell ?_ ?_ _ | refine Ext.trans ?_ (by assumption)))); all_goals (first | (simp; done) | (simp; omega))) hb3); clear hb3 ho3)
    | (go_at_call 60; refine (rRight_any W H s _).mono ?_; rintro e w5 ⟨rfl, hb5⟩; rw [HR.out]; obtain ⟨hc5, hf5⟩ := hb5.cells; have hz5 := hb5.size; (repeat (first | rw [World.size_alloc] at hz5 | rw [World.size_drew] at hz5)); have z5_0 : w.heap.size < w5.heap.size := (by omega); have X5 := hide hb5; clear hb5)
    | (go_at_call 28; refine (rBoxes_any _ _ _ _ HR.out).mono ?_; rintro e w6 ⟨v6, rfl, hb6, hv6⟩; obtain ⟨a6, c6, rfl⟩ := hv6.slice; rw [show (boxesR W H s (acr H s).toNat).length = N from HN.out] at hv6 ⊢; obtain ⟨hc6, hf6⟩ := hb6.cells; have hz6 := hb6.size; (repeat (first | rw [World.size_alloc] at hz6 | rw [World.size_drew] at hz6)); have z6_0 : w.heap.size < w6.heap.size := (by omega); have X6 := hide hb6; have O6 := hide hv6; clear hb6 hv6))
  have XW := hide ((X3.out.trans X5.out).trans X6.out)
  have O3' := hide ((O3.out.ext X5.out).ext X6.out)
  have OB : Hid (Own pairE (w6.alloc (.cells #[] 112)) w6.heap.size 112 (.slice (some ⟨w6.heap.size, 0, none⟩) 0 0) []) := hide (Own.lit0 pairE w6 _ _ _ rfl (Nat.le_refl _))
  have XB : Hid (Ext w6 (w6.alloc (.cells #[] 112))) := hide ((Ext.refl _).alloc _)
  have hz6' := XW.out.size
  clear hc3 hf3 hz3 z3_0 hc5 hf5 hz5 z5_0 hc6 hf6 hz6 z6_0 X3 X5 X6 O3 C1
  go_loopw [10, 11] (fun o i wr => ∃ q : Nat, i = .int .i64 (q : Int) ∧ q ≤ L.length ∧ Ext w6 wr ∧ Own pairE wr w6.heap.size 112 o (L.take q)) (fun _ i _ => L.length - (intOf i).toNat)
  case atStart => exact ⟨0, rfl, Nat.zero_le _, XB.out, by simpa using OB.out⟩
  case round =>
    obtain ⟨q, rfl, hq, hx, ho⟩ := hrel
    have HX := hide hx
    have HO := hide ho
    have hzr := hx.size
    obtain ⟨ao, co, rfl⟩ := ho.slice
    clear ho XB OB
    by_cases hlt : q < L.length
    · obtain ⟨b, off, c', hv, hb, hP⟩ : ∃ b off c', (Value.slice a L.length c) = .slice (some ⟨b, off, none⟩) L.length c' ∧ b < w.heap.size ∧ PairsAt w b off L := by
        rcases HLR.out (by omega) with ⟨_, rfl⟩ | ⟨b, off, cap, hv, hb, hc⟩
        · simp at hlt
        · exact ⟨b, off, cap, hv, hb, (Reads.pairs (.inr ⟨b, off, cap, rfl, hb, hc⟩)).2⟩
      simp only [Value.slice.injEq] at hv
      obtain ⟨rfl, _, rfl⟩ := hv
      have hgq : L[q]? = some L[q] := List.getElem?_eq_getElem hlt
      obtain ⟨d0, d1, d2, d3⟩ := hP q hlt
      have e0 := ((XW.out.trans hx).cell (p := ⟨b, off + q * 4, none⟩) hb).trans d0
      have e1 := ((XW.out.trans hx).cell (p := ⟨b, off + q * 4 + 1, none⟩) hb).trans d1
      have e2 := ((XW.out.trans hx).cell (p := ⟨b, off + q * 4 + 2, none⟩) hb).trans d2
      have e3 := ((XW.out.trans hx).cell (p := ⟨b, off + q * 4 + 3, none⟩) hb).trans d3
      obtain ⟨u, hu⟩ : ∃ u, L[q] = u := ⟨_, rfl⟩
      rw [hu] at hgq e0 e1 e2 e3
      obtain ⟨⟨ua, ub⟩, ⟨uc, ud⟩⟩ := u
      simp only at e0 e1 e2 e3
      have HTS := hide (show L.take (q + 1) = L.take q ++ [((ua, ub), (uc, ud))] by rw [List.take_add_one, hgq]; rfl)
      have htl : (L.take q).length = q := by simp; omega
      have HTL := hide htl
      rw [htl] at HO ⊢
      have S0 : Hid (CellsAt [(⟨b, off + q * 4, none⟩, .int .i64 ua), (⟨b, off + q * 4 + 1, none⟩, .int .i64 ub), (⟨b, off + q * 4 + 2, none⟩, .int .i64 uc), (⟨b, off + q * 4 + 3, none⟩, .int .i64 ud)] wr) := hide ⟨e0, e1, e2, e3, trivial⟩
      have hqi : (q : Int) < (L.length : Int) := by omega
      clear d0 d1 d2 d3 hP hgq hu htl e0 e1 e2 e3 hx
      go_wp2_with fail
      refine seqH_start (S := (CellsAt [(⟨b, off + q * 4, none⟩, .int .i64 ua), (⟨b, off + q * 4 + 1, none⟩, .int .i64 ub), (⟨b, off + q * 4 + 2, none⟩, .int .i64 uc), (⟨b, off + q * 4 + 3, none⟩, .int .i64 ud)])) [(0, true), (1, true), (2, true), (3, true), (4, true), (5, true), (6, true), (7, true), (8, true), (9, true), (10, true), (11, true), (12, false), (13, false), (14, true)] (by kernel_rfl) (by kernel_rfl) (by kernel_rfl) (by decide) (fun _ _ d _ _ h => by cases d <;> exact h) (CellsAt.ext ((Ext.refl _).drew) S0.out) (fun hHeld => ?_)
      iterate 12 (apply SeqH.free; (· (simp only [List.getElem?_toArray, List.getElem?_cons_succ, List.getElem?_cons_zero]; rfl)); (· first | exact Or.inr ⟨by rfl, rfl⟩ | (refine Or.inl ⟨by rfl, ?_⟩; intro w hSw; (try dsimp only at hSw); simp only [CellsAt] at hSw; go_simp; try with_reducible rfl)); try simp only [Act.put, List.setIfInBounds_toArray, List.set_cons_zero, List.set_cons_succ])
      (apply SeqH.step; (· (simp only [List.getElem?_toArray, List.getElem?_cons_succ, List.getElem?_cons_zero]; rfl)); intro K hK; go_simp; refine hK.out _ _ (CellsAt.ext (by (with_reducible (repeat' (first | exact Ext.refl _ | assumption | refine Ext.drew ?_ | refine Ext.drewN ?_ _ | refine Ext.alloc ?_ _ | refine Ext.setCell ?_ ?_ _ | refine Ext.trans ?_ (by assumption)))); all_goals (first | (simp; done) | (simp; omega))) S0.out) (fun hHeld => ?_); clear hK K; try simp only [Act.put, List.setIfInBounds_toArray, List.set_cons_zero, List.set_cons_succ])
      (apply SeqH.step; (· (simp only [List.getElem?_toArray, List.getElem?_cons_succ, List.getElem?_cons_zero]; rfl)); intro K hK; refine step_app_drew pairE T_gates12 (by rfl) _ _ (by rfl) w6.heap.size wr (.slice ao q co) (L.take q) (by rfl) HO.out ((ua, ub), (uc, ud)) _ _ (by rfl) _ (by rfl) (by rfl) (by rw [HTL.out]; omega) (by rw [HTL.out]; omega) (by omega) ?_; intro g9 c9 w9 o9 t9 l9; rw [HTL.out] at o9 ⊢; have S9 := hide (CellsAt.touch t9 (fun p hp h => by have hl := (own_lt HO.out h).1; simp only [List.mem_cons, List.not_mem_nil, or_false] at hp; rcases hp with rfl | rfl | rfl | rfl <;> simp only at hl <;> omega) S0.out); have O9 := hide o9; have T9 := hide t9; clear o9 t9 l9; refine hK.out _ _ (S9.out) (fun hHeld => ?_); clear hK K; try simp only [Act.put, List.setIfInBounds_toArray, List.set_cons_zero, List.set_cons_succ])
      iterate 1 (apply SeqH.free; (· (simp only [List.getElem?_toArray, List.getElem?_cons_succ, List.getElem?_cons_zero]; rfl)); (· first | exact Or.inr ⟨by rfl, rfl⟩ | (refine Or.inl ⟨by rfl, ?_⟩; intro w hSw; (try dsimp only at hSw); simp only [CellsAt] at hSw; go_simp; try with_reducible rfl)); try simp only [Act.put, List.setIfInBounds_toArray, List.set_cons_zero, List.set_cons_succ])
      refine SeqH.done ?_
      clear hHeld
      go_wp2
      go_roundw
      case rel => exact ⟨q + 1, by go_num, by omega, HX.out.of_below (T9.out.to_below (by omega) (fun z hz => (own_lt HO.out hz).1)) (Nat.le_refl _), by rw [HTS.out]; exact O9.out⟩
      case measure => simp [intOf]; omega
    · obtain rfl : q = L.length := by omega
      rw [List.take_of_length_le (Nat.le_refl _)] at HO ⊢
      obtain ⟨g6, rfl, z6, b0, b1, b2, b3⟩ := own_gate_at (O6.out.ext hx) HBX.out
      have HC := hide (fun (w' : World) (x : Ext wr w') => r12Cells_any L (.slice ao L.length co) bx byy bw bh w' (by omega) (HO.out.reads.ext x) (by omega) (by omega) (by omega) (by omega))
      have H3 := hide (O3'.out.ext hx).reads
      have HQ := HCL.out
      simp only at b0 b1 b2 b3
      rw [HQ] at H3 HCLn ⊢
      have HCLn' := HCLn.out
      clear HQ hx
      go_wp2_with (first
        | (go_at_call 62; refine (HC.out _ (by (with_reducible (repeat' (first | exact Ext.refl _ | assumption | refine Ext.drew ?_ | refine Ext.drewN ?_ _ | refine Ext.alloc ?_ _ | refine Ext.setCell ?_ ?_ _ | refine Ext.trans ?_ (by assumption)))); all_goals (first | (simp; done) | (simp; omega)))).mono ?_; rintro e w7 ⟨v7, rfl, x7, o7⟩; obtain ⟨a7, c7, rfl⟩ := o7.slice; have O7 := hide o7.reads; have X7 := hide x7; clear o7 x7)
        | (go_at_call 61; refine (cells12_same _ _ _ _ (by omega) (H3.out.ext X7.out) O7.out).mono ?_; rintro e w8 ⟨rfl, x8⟩; have X8 := hide x8; clear x8)
        | (go_at_call 57; refine (awake12_any _).mono ?_; rintro e w9 ⟨rfl, hb9⟩; obtain ⟨hc9, hf9⟩ := hb9.cells; have hz9 := hb9.size; (repeat (first | rw [World.size_alloc] at hz9 | rw [World.size_drew] at hz9))))
      go_ret
      exact ⟨rfl, (((XW.out.trans HX.out).trans X7.out).trans X8.out).trans (by (with_reducible (repeat' (first | exact Ext.refl _ | assumption | refine Ext.drew ?_ | refine Ext.drewN ?_ _ | refine Ext.alloc ?_ _ | refine Ext.setCell ?_ ?_ _ | refine Ext.trans ?_ (by assumption)))); all_goals (first | (simp; done) | (simp; omega)))⟩
end Go.Proofs.Ytifbmapianddcaa
