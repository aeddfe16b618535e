/- GateBetween: for every field of up to 260 costs, every parts and any two numbers, the law returns true and leaves its arguments as they were. No condition. -/
import Derived.Test.YtkonojjillcfiaaAwake12
import Derived.Test.YtkonojjillcfiaaArgF
namespace Go.Proofs.Ytkonojjillcfiaa
open Go.RowKit Go.ChangeShapes Go.WideShapes Go.ChangeAt

theorem gb_far (W H : Int) (a : Option Addr) (n c : Nat) (pW pH s x y : Int) (w : World) (hn : ¬ (n : Int) ≤ 260) :
    Calls Try.prog 3 #[.agg #[.int .i64 W, .int .i64 H, .slice a n c], .agg #[.int .i64 pW, .int .i64 pH, .int .i64 s], .agg #[.int .i64 x, .int .i64 y]] w fun e w' => e = .returned (.bool true) ∧ Ext w w' := by
  have hd : decide ((n : Int) ≤ 260) = false := by simpa using hn
  clear hn
  go_enter Try.func3, Try.ntmps3
  go_wp2_with (first
    | (go_at_call 15; refine (small12_any _ _ _ _ _ _).mono ?_; rintro e w1 ⟨rfl, hb1⟩; rw [hd]; obtain ⟨hc1, hf1⟩ := hb1.cells; have hz1 := hb1.size; (repeat (first | rw [World.size_alloc] at hz1 | rw [World.size_drew] at hz1)); have z1_0 : w.heap.size < w1.heap.size := (by omega); have z1_1 : w.heap.size + 1 < w1.heap.size := (by omega); have z1_2 : w.heap.size + 1 + 1 < w1.heap.size := (by omega))
    | (go_at_call 16; refine (awake12_any _).mono ?_; rintro e w2 ⟨rfl, hb2⟩; obtain ⟨hc2, hf2⟩ := hb2.cells; have hz2 := hb2.size; (repeat (first | rw [World.size_alloc] at hz2 | rw [World.size_drew] at hz2))))
  go_ret
  exact ⟨rfl, (by (with_reducible (repeat' (first | exact Ext.refl _ | assumption | refine Ext.drew ?_ | refine Ext.drewN ?_ _ | refine Ext.alloc ?_ _ | refine Ext.setCell ?_ ?_ _ | refine Ext.trans ?_ (by assumption)))); all_goals (first | (simp; done) | (simp; omega)))⟩

set_option maxRecDepth 100000 in
set_option maxHeartbeats 1000000 in
theorem gb_bad (W H : Int) (a : Option Addr) (n c : Nat) (pW pH s x y er : Int) (w : World) (hn : (n : Int) ≤ 260) (h0 : er ≠ 0) (hm : mayE W H pW pH s n = er)
    (hG : ∀ w, Calls Try.prog 17 #[.agg #[.int .i64 W, .int .i64 H, .slice a n c], .agg #[.int .i64 pW, .int .i64 pH, .int .i64 s], .int .i64 x, .int .i64 y] w fun e w' => e = .returned (.tuple #[.slice none 0 0, .int .i64 er]) ∧ Ext w w') :
    Calls Try.prog 3 #[.agg #[.int .i64 W, .int .i64 H, .slice a n c], .agg #[.int .i64 pW, .int .i64 pH, .int .i64 s], .agg #[.int .i64 x, .int .i64 y]] w fun e w' => e = .returned (.bool true) ∧ Ext w w' := by
  have hd : decide ((n : Int) ≤ 260) = true := by simpa using hn
  have q1 : (er == 0) = false := by simpa using h0
  have q2 : (er != 0) = true := by simpa using h0
  have HG := hide hG
  have HM := hide hm
  clear hn hG hm h0
  go_enter Try.func3, Try.ntmps3
  go_wp2_with (first
    | (go_at_call 15; refine (small12_any _ _ _ _ _ _).mono ?_; rintro e w1 ⟨rfl, hb1⟩; rw [hd]; obtain ⟨hc1, hf1⟩ := hb1.cells; have hz1 := hb1.size; (repeat (first | rw [World.size_alloc] at hz1 | rw [World.size_drew] at hz1)); have z1_0 : w.heap.size < w1.heap.size := (by omega); have z1_1 : w.heap.size + 1 < w1.heap.size := (by omega); have z1_2 : w.heap.size + 1 + 1 < w1.heap.size := (by omega))
    | (go_at_call 17; refine (HG.out _).mono ?_; rintro e w2 ⟨rfl, hb2⟩; obtain ⟨hc2, hf2⟩ := hb2.cells; have hz2 := hb2.size; (repeat (first | rw [World.size_alloc] at hz2 | rw [World.size_drew] at hz2)); have z2_0 : w.heap.size < w2.heap.size := (by omega); have z2_1 : w.heap.size + 1 < w2.heap.size := (by omega); have z2_2 : w.heap.size + 1 + 1 < w2.heap.size := (by omega))
    | (go_at_call 18; refine (may12_any _ _ _ _ _ _ _ _ _).mono ?_; rintro e w3 ⟨rfl, hb3⟩; rw [HM.out]; obtain ⟨hc3, hf3⟩ := hb3.cells; have hz3 := hb3.size; (repeat (first | rw [World.size_alloc] at hz3 | rw [World.size_drew] at hz3)); have z3_0 : w.heap.size < w3.heap.size := (by omega); have z3_1 : w.heap.size + 1 < w3.heap.size := (by omega); have z3_2 : w.heap.size + 1 + 1 < w3.heap.size := (by omega))
    | (go_at_call 16; refine (awake12_any _).mono ?_; rintro e w4 ⟨rfl, hb4⟩; obtain ⟨hc4, hf4⟩ := hb4.cells; have hz4 := hb4.size; (repeat (first | rw [World.size_alloc] at hz4 | rw [World.size_drew] at hz4))))
  go_ret
  exact ⟨rfl, (by (with_reducible (repeat' (first | exact Ext.refl _ | assumption | refine Ext.drew ?_ | refine Ext.drewN ?_ _ | refine Ext.alloc ?_ _ | refine Ext.setCell ?_ ?_ _ | refine Ext.trans ?_ (by assumption)))); all_goals (first | (simp; done) | (simp; omega)))⟩

set_option maxRecDepth 100000 in
set_option maxHeartbeats 2000000 in
theorem gb_out (W H : Int) (a : Option Addr) (n c : Nat) (s x y : Int) (w : World) (hn : (n : Int) ≤ 260) (hc0 : checkE W H n = 0) (hr : rightB W H s = true) (ho : ¬ (0 ≤ x ∧ x < cnt W H s) ∨ ¬ (0 ≤ y ∧ y < cnt W H s)) :
    Calls Try.prog 3 #[.agg #[.int .i64 W, .int .i64 H, .slice a n c], .agg #[.int .i64 W, .int .i64 H, .int .i64 s], .agg #[.int .i64 x, .int .i64 y]] w fun e w' => e = .returned (.bool true) ∧ Ext w w' := by
  have hd : decide ((n : Int) ≤ 260) = true := by simpa using hn
  have HM := hide (show mayE W H W H s n = 0 by simp [mayE, hc0, hr])
  have HG := hide (fun w => gtBetween_err W H a n c W H s x y 10 w (by simp [gateE, hc0]) rfl (fun w => Border_range W H s x y w hr ho))
  have b0 := cnt_bd hr
  have hl := boxesAll_len hr
  obtain ⟨N, hN⟩ : ∃ N : Nat, (boxesAll W H s).length = N := ⟨_, rfl⟩
  have hN' : (boxesR W H s (acr H s).toNat).length = N := hN
  have nb : N ≤ 65536 := by omega
  have ho' : x < 0 ∨ (0 ≤ x ∧ (N : Int) ≤ x) ∨ (0 ≤ x ∧ x < (N : Int) ∧ y < 0) ∨ (0 ≤ x ∧ x < (N : Int) ∧ 0 ≤ y ∧ (N : Int) ≤ y) := by omega
  have HR := hide hr
  clear hn hc0 ho b0 hl hN hr
  rcases ho' with h1 | ⟨h1, h2⟩ | ⟨h1, h2, h3⟩ | ⟨h1, h2, h3, h4⟩
  all_goals
    go_enter Try.func3, Try.ntmps3
    go_wp2_with (first
      | (go_at_call 15; refine (small12_any _ _ _ _ _ _).mono ?_; rintro e w1 ⟨rfl, hb1⟩; rw [hd]; obtain ⟨hc1, hf1⟩ := hb1.cells; have hz1 := hb1.size; (repeat (first | rw [World.size_alloc] at hz1 | rw [World.size_drew] at hz1)); have z1_0 : w.heap.size < w1.heap.size := (by omega); have z1_1 : w.heap.size + 1 < w1.heap.size := (by omega); have z1_2 : w.heap.size + 1 + 1 < w1.heap.size := (by omega))
      | (go_at_call 17; refine (HG.out _).mono ?_; rintro e w2 ⟨rfl, hb2⟩; obtain ⟨hc2, hf2⟩ := hb2.cells; have hz2 := hb2.size; (repeat (first | rw [World.size_alloc] at hz2 | rw [World.size_drew] at hz2)); have z2_0 : w.heap.size < w2.heap.size := (by omega); have z2_1 : w.heap.size + 1 < w2.heap.size := (by omega); have z2_2 : w.heap.size + 1 + 1 < w2.heap.size := (by omega))
      | (go_at_call 18; refine (may12_any _ _ _ _ _ _ _ _ _).mono ?_; rintro e w3 ⟨rfl, hb3⟩; rw [HM.out]; obtain ⟨hc3, hf3⟩ := hb3.cells; have hz3 := hb3.size; (repeat (first | rw [World.size_alloc] at hz3 | rw [World.size_drew] at hz3)); have z3_0 : w.heap.size < w3.heap.size := (by omega); have z3_1 : w.heap.size + 1 < w3.heap.size := (by omega); have z3_2 : w.heap.size + 1 + 1 < w3.heap.size := (by omega))
      | (go_at_call 19; refine (rBoxes_any _ _ _ _ HR.out).mono ?_; rintro e w5 ⟨v5, rfl, hb5, hv5⟩; obtain ⟨ao, co, rfl⟩ := hv5.slice; rw [hN']; clear hv5; obtain ⟨hc5, hf5⟩ := hb5.cells; have hz5 := hb5.size; (repeat (first | rw [World.size_alloc] at hz5 | rw [World.size_drew] at hz5)); have z5_0 : w.heap.size < w5.heap.size := (by omega); have z5_1 : w.heap.size + 1 < w5.heap.size := (by omega); have z5_2 : w.heap.size + 1 + 1 < w5.heap.size := (by omega))
      | (go_at_call 16; refine (awake12_any _).mono ?_; rintro e w4 ⟨rfl, hb4⟩; obtain ⟨hc4, hf4⟩ := hb4.cells; have hz4 := hb4.size; (repeat (first | rw [World.size_alloc] at hz4 | rw [World.size_drew] at hz4))))
    all_goals first | (go_ret; exact ⟨rfl, (by (with_reducible (repeat' (first | exact Ext.refl _ | assumption | refine Ext.drew ?_ | refine Ext.drewN ?_ _ | refine Ext.alloc ?_ _ | refine Ext.setCell ?_ ?_ _ | refine Ext.trans ?_ (by assumption)))); all_goals (first | (simp; done) | (simp; omega)))⟩) | (exfalso; omega)

theorem rBorder_lawI (g c N : Nat) (W H s x y : Int) (w : World) (hr : rightB W H s = true) (hN : (boxesAll W H s).length = N) (hx0 : 0 ≤ x) (hx : x < (N : Int)) (hy0 : 0 ≤ y) (hy : y < (N : Int)) (hR : Reads pairE w (.slice (some ⟨g, 0, none⟩) N c) (boxesAll W H s)) :
    Calls Try.prog 20 #[.slice (some ⟨g, 0, none⟩) N c, .int .i64 x, .int .i64 y] w (RetPairs1 w (wantL W H s x y)) := by
  obtain ⟨k, rfl⟩ := Int.eq_ofNat_of_zero_le hx0
  obtain ⟨m, rfl⟩ := Int.eq_ofNat_of_zero_le hy0
  exact rBorder_law g c N W H s k m w hr hN (by omega) (by omega) hR

set_option maxRecDepth 100000 in
set_option maxHeartbeats 4000000 in
theorem gb_in (W H : Int) (a : Option Addr) (l : List Int) (c : Nat) (s : Int) (x y : Int) (er : Int) (G : List (Cell × Cell)) (w : World) (hn : (l.length : Int) ≤ 260) (hc0 : checkE W H l.length = 0) (hr : rightB W H s = true) (hx0 : 0 ≤ x) (hx : x < cnt W H s) (hy0 : 0 ≤ y) (hy : y < cnt W H s)
    (hrw : Row16 w a l) (hu : U16s l) (hcase : (wantL W H s x y = [] ∧ er = 1 ∧ G = []) ∨ (wantL W H s x y = bords W H s x y ∧ 1 ≤ (bords W H s x y).length ∧ (bords W H s x y).length ≤ 16 ∧ er = 0 ∧ G = pick (bords W H s x y) (refI (opB l W (bords W H s x y)) (bords W H s x y).length (bords W H s x y).length) ∧ ∀ (k : Nat) (p : Cell × Cell), (bords W H s x y)[k]? = some p → InMap W H p))
    (hG : ∀ w, Row16 w a l → Calls Try.prog 17 #[.agg #[.int .i64 W, .int .i64 H, .slice a l.length c], .agg #[.int .i64 W, .int .i64 H, .int .i64 s], .int .i64 x, .int .i64 y] w (RetGatesE w G er)) :
    Calls Try.prog 3 #[.agg #[.int .i64 W, .int .i64 H, .slice a l.length c], .agg #[.int .i64 W, .int .i64 H, .int .i64 s], .agg #[.int .i64 x, .int .i64 y]] w fun e w' => e = .returned (.bool true) ∧ Ext w w' := by
  have hd : decide ((l.length : Int) ≤ 260) = true := by simpa using hn
  have HM := hide (show mayE W H W H s l.length = 0 by simp [mayE, hc0, hr])
  have HG := hide hG
  have HC := hide hcase
  have HRW := hide hrw
  have HU := hide hu
  have HK := hide hc0
  clear hcase hrw hu
  have b0 := cnt_bd hr
  have hl := boxesAll_len hr
  obtain ⟨N, hN⟩ : ∃ N : Nat, (boxesAll W H s).length = N := ⟨_, rfl⟩
  have hN' : (boxesR W H s (acr H s).toNat).length = N := hN
  have nb : N ≤ 65536 := by omega
  have k1 : x < (N : Int) := by omega
  have k2 : y < (N : Int) := by omega
  have HR := hide hr
  have HN := hide hN
  clear hn hc0 b0 hl hN hr hx hy hG
  go_enter Try.func3, Try.ntmps3
  go_wp2_with (first
    | (go_at_call 15; refine (small12_any _ _ _ _ _ _).mono ?_; rintro e w1 ⟨rfl, hb1⟩; rw [hd]; obtain ⟨hc1, hf1⟩ := hb1.cells; have hz1 := hb1.size; (repeat (first | rw [World.size_alloc] at hz1 | rw [World.size_drew] at hz1)); have z1_0 : w.heap.size < w1.heap.size := (by omega); have z1_1 : w.heap.size + 1 < w1.heap.size := (by omega); have z1_2 : w.heap.size + 1 + 1 < w1.heap.size := (by omega))
    | (go_at_call 17; refine (HG.out _ (HRW.out.ext (by (with_reducible (repeat' (first | exact Ext.refl _ | assumption | refine Ext.drew ?_ | refine Ext.drewN ?_ _ | refine Ext.alloc ?_ _ | refine Ext.setCell ?_ ?_ _ | refine Ext.trans ?_ (by assumption)))); all_goals (first | (simp; done) | (simp; omega))))).mono ?_; rintro e w2 ⟨v2, rfl, hb2, hv2⟩; obtain ⟨hc2, hf2⟩ := hb2.cells; have hz2 := hb2.size; (repeat (first | rw [World.size_alloc] at hz2 | rw [World.size_drew] at hz2)); have z2_0 : w.heap.size < w2.heap.size := (by omega); have z2_1 : w.heap.size + 1 < w2.heap.size := (by omega); have z2_2 : w.heap.size + 1 + 1 < w2.heap.size := (by omega))
    | (go_at_call 18; refine (may12_any _ _ _ _ _ _ _ _ _).mono ?_; rintro e w3 ⟨rfl, hb3⟩; rw [HM.out]; obtain ⟨hc3, hf3⟩ := hb3.cells; have hz3 := hb3.size; (repeat (first | rw [World.size_alloc] at hz3 | rw [World.size_drew] at hz3)); have z3_0 : w.heap.size < w3.heap.size := (by omega); have z3_1 : w.heap.size + 1 < w3.heap.size := (by omega); have z3_2 : w.heap.size + 1 + 1 < w3.heap.size := (by omega))
    | (go_at_call 19; refine (rBoxes_any _ _ _ _ HR.out).mono ?_; rintro e w5 ⟨v5, rfl, hb5, hv5⟩; obtain ⟨ao, co, rfl⟩ := hv5.slice; rw [hN']; clear hv5; obtain ⟨hc5, hf5⟩ := hb5.cells; have hz5 := hb5.size; (repeat (first | rw [World.size_alloc] at hz5 | rw [World.size_drew] at hz5)); have z5_0 : w.heap.size < w5.heap.size := (by omega); have z5_1 : w.heap.size + 1 < w5.heap.size := (by omega); have z5_2 : w.heap.size + 1 + 1 < w5.heap.size := (by omega)))
  all_goals try (exfalso; omega)
  have x5 : Ext w w5 := (by (with_reducible (repeat' (first | exact Ext.refl _ | assumption | refine Ext.drew ?_ | refine Ext.drewN ?_ _ | refine Ext.alloc ?_ _ | refine Ext.setCell ?_ ?_ _ | refine Ext.trans ?_ (by assumption)))); all_goals (first | (simp; done) | (simp; omega)))
  have k00 : w5.cell? ⟨w.heap.size, 0, none⟩ = some (.int .i64 W) := by rw [hc5 _ _ (by omega), hc3 _ _ (by omega), hc2 _ _ (by omega), hc1 _ _ (by simp <;> omega)] <;> simp [go_sem]
  have k01 : w5.cell? ⟨w.heap.size, 1, none⟩ = some (.int .i64 H) := by rw [hc5 _ _ (by omega), hc3 _ _ (by omega), hc2 _ _ (by omega), hc1 _ _ (by simp <;> omega)] <;> simp [go_sem]
  have k02 : w5.cell? ⟨w.heap.size, 2, none⟩ = some (.slice a l.length c) := by rw [hc5 _ _ (by omega), hc3 _ _ (by omega), hc2 _ _ (by omega), hc1 _ _ (by simp <;> omega)] <;> simp [go_sem]
  have k10 : w5.cell? ⟨w.heap.size + 1, 0, none⟩ = some (.int .i64 W) := by rw [hc5 _ _ (by omega), hc3 _ _ (by omega), hc2 _ _ (by omega), hc1 _ _ (by simp <;> omega)] <;> simp [go_sem]
  have k11 : w5.cell? ⟨w.heap.size + 1, 1, none⟩ = some (.int .i64 H) := by rw [hc5 _ _ (by omega), hc3 _ _ (by omega), hc2 _ _ (by omega), hc1 _ _ (by simp <;> omega)] <;> simp [go_sem]
  have k12 : w5.cell? ⟨w.heap.size + 1, 2, none⟩ = some (.int .i64 s) := by rw [hc5 _ _ (by omega), hc3 _ _ (by omega), hc2 _ _ (by omega), hc1 _ _ (by simp <;> omega)] <;> simp [go_sem]
  have k20 : w5.cell? ⟨w.heap.size + 1 + 1, 0, none⟩ = some (.int .i64 x) := by rw [hc5 _ _ (by omega), hc3 _ _ (by omega), hc2 _ _ (by omega), hc1 _ _ (by simp <;> omega)] <;> simp [go_sem]
  have k21 : w5.cell? ⟨w.heap.size + 1 + 1, 1, none⟩ = some (.int .i64 y) := by rw [hc5 _ _ (by omega), hc3 _ _ (by omega), hc2 _ _ (by omega), hc1 _ _ (by simp <;> omega)] <;> simp [go_sem]
  have HV2 := hide ((hv2.reads.ext hb3).ext hb5)
  have X5 := hide x5
  clear x5 hv2 hb1 hb2 hb3 hb5 hc1 hc2 hc3 hc5 hf1 hf2 hf3 hf5 z1_0 z1_1 z1_2 z2_0 z2_1 z2_2 z3_0 z3_1 z3_2
  go_region_held3 (fun W => (∀ b o, b < w5.heap.size → W.cell? ⟨b, o, none⟩ = w5.cell? ⟨b, o, none⟩) ∧ Ext w5 W) (first | with_reducible exact pr_start _ | exact pr_of (by (with_reducible (repeat' (first | exact Ext.refl _ | assumption | refine Ext.drew ?_ | refine Ext.drewN ?_ _ | refine Ext.alloc ?_ _ | refine Ext.setCell ?_ ?_ _ | refine Ext.trans ?_ (by assumption)))); all_goals (first | (simp; done) | (simp; omega)))) (first
    | (go_at_call 19; refine (rBoxes_any _ _ _ _ HR.out).mono ?_; rintro e w6 ⟨v6, rfl, hb6, hv6⟩; obtain ⟨g6, c6, rfl, hg1, hg2⟩ := hv6.pos (by omega); have HV6 := hide hv6; clear hv6; rw [hN'])
    | (go_at_call 20; refine (rBorder_lawI g6 c6 N W H s x y _ HR.out HN.out (by omega) (by omega) (by omega) (by omega) (by have hv := HV6.out; rw [hN'] at hv; exact hv.reads)).mono ?_; rintro e w7 ⟨v7, rfl, hb7, hv7⟩; obtain ⟨a7, c7, rfl⟩ := hv7.slice; have HV7 := hide hv7; clear hv7))
  rename_i hS
  have hc7 : ∀ b o, b < w5.heap.size → w7.cell? ⟨b, o, none⟩ = w5.cell? ⟨b, o, none⟩ := hS.1
  have hx57 : Ext w5 w7 := hS.2
  have hx7 : Ext w w7 := X5.out.trans hx57
  have hv7 := HV7.out
  have HV27 := hide (HV2.out.ext hx57)
  clear hS HV7 hb6 hb7 HV6 HV2
  rcases HC.out with ⟨eB, eE, eG⟩ | ⟨eB, l1, l2, eE, eG, hin⟩
  · rw [eB] at hv7 ⊢
    subst eE eG
    obtain ⟨a2, c2, rfl⟩ := HV27.out.slice
    clear hv7 HC HG
    go_wp2_with (go_at_call 16; refine (awake12_any _).mono ?_; rintro e w8 ⟨rfl, hb8⟩; obtain ⟨hc8, hf8⟩ := hb8.cells; have hz8 := hb8.size; (repeat (first | rw [World.size_alloc] at hz8 | rw [World.size_drew] at hz8)))
    go_ret
    exact ⟨rfl, (by (with_reducible (repeat' (first | exact Ext.refl _ | assumption | refine Ext.drew ?_ | refine Ext.drewN ?_ _ | refine Ext.alloc ?_ _ | refine Ext.setCell ?_ ?_ _ | refine Ext.trans ?_ (by assumption)))); all_goals (first | (simp; done) | (simp; omega)))⟩
  · rw [eB] at hv7 ⊢
    subst eE
    generalize bords W H s x y = B at *
    obtain ⟨g7, c7', e7, hg7, hg7'⟩ := hv7.pos (by omega)
    have ea : a7 = some ⟨g7, 0, none⟩ := by injection e7
    subst ea
    have HIN := hide hin
    have HPA := hide (hv7.reads.pairs.2)
    have HEG := hide eG
    obtain ⟨m1, m2⟩ := checkE_ok.1 HK.out
    have HM1 := hide m1
    have HM2 := hide m2
    have kk0 := (hc7 _ _ z5_0).trans k00
    have kk1 := (hc7 _ _ z5_0).trans k01
    have kk2 := (hc7 _ _ z5_0).trans k02
    have nz : ((B.length : Int) == 0) = false := by rw [beq_eq_false_iff_ne]; omega
    clear hin hv7 eG m1 m2 e7 HC HG k00 k01 k02 k10 k11 k12 k20 k21 hc7 eB
    go_wp2_with fail
    refine (r12Between_any W H a l c g7 c7 B _ HM1.out HM2.out (HRW.out.ext hx7) HU.out (by omega) hg7' HPA.out HIN.out).mono ?_
    rintro e w8 ⟨v8, rfl, hb8, hv8⟩
    have HV8 := hide hv8
    clear hv8
    go_wp2_with fail
    refine (same12_any _ _ G _ (by rw [HEG.out]; have := pick_len (opB l W B) B B.length; omega) (HV27.out.ext hb8) (by rw [HEG.out]; exact HV8.out.reads)).mono ?_
    rintro e w9 ⟨rfl, hb9⟩
    go_wp2_with (go_at_call 16; refine (awake12_any _).mono ?_; rintro e w10 ⟨rfl, hb10⟩; obtain ⟨hc10, hf10⟩ := hb10.cells; have hz10 := hb10.size; (repeat (first | rw [World.size_alloc] at hz10 | rw [World.size_drew] at hz10)))
    go_ret
    exact ⟨rfl, (by (with_reducible (repeat' (first | exact Ext.refl _ | assumption | refine Ext.drew ?_ | refine Ext.drewN ?_ _ | refine Ext.alloc ?_ _ | refine Ext.setCell ?_ ?_ _ | refine Ext.trans ?_ (by assumption)))); all_goals (first | (simp; done) | (simp; omega)))⟩

theorem gateBetween_any (W H : Int) (a : Option Addr) (l : List Int) (c : Nat) (pW pH s x y : Int) (w : World) (hr : Row16 w a l) (hu : U16s l) :
    Calls Try.prog 3 #[.agg #[.int .i64 W, .int .i64 H, .slice a l.length c], .agg #[.int .i64 pW, .int .i64 pH, .int .i64 s], .agg #[.int .i64 x, .int .i64 y]] w fun e w' => e = .returned (.bool true) ∧ Ext w w' := by
  by_cases hn : (l.length : Int) ≤ 260
  · by_cases hc0 : checkE W H l.length = 0
    · by_cases he : pW = W ∧ pH = H
      · obtain ⟨rfl, rfl⟩ := he
        cases ht : rightB pW pH s
        · refine gb_bad pW pH a l.length c pW pH s x y 1 w hn (by decide) (by simp [mayE, hc0, ht]) (fun w => ?_)
          have e1 : hasE pW pH s [x, y] = 1 := by simp [hasE, ht]
          refine gtBetween_err pW pH a l.length c pW pH s x y 1 w (by simp [gateE, hc0]) rfl (fun w => ?_)
          have h := Border_err pW pH s x y w (by rw [e1]; rfl)
          rwa [e1] at h
        · by_cases hx : 0 ≤ x ∧ x < cnt pW pH s
          · by_cases hy : 0 ≤ y ∧ y < cnt pW pH s
            · cases hne : hasI (besideL pW pH s (min x y)) (max x y)
              · refine gb_in pW pH a l c s x y 1 [] w hn hc0 ht hx.1 hx.2 hy.1 hy.2 hr hu (.inl ⟨by unfold wantL; rw [hne]; rfl, rfl, rfl⟩) (fun w _ => ?_)
                refine (gtBetween_err pW pH a l.length c pW pH s x y 1 w (by simp [gateE, hc0]) rfl (fun w => Border_arg pW pH s x y w ht hx.1 hx.2 hy.1 hy.2 hne)).mono ?_
                rintro e w' ⟨rfl, h⟩
                exact ⟨_, rfl, h, Own.nil _ _ _ _⟩
              · have hlt := ne_of_beside ht hne
                refine gb_in pW pH a l c s x y 0 _ w hn hc0 ht hx.1 hx.2 hy.1 hy.2 hr hu (.inr ⟨by unfold wantL bords; rw [hne]; rfl, borderL_pos ht (by omega) (by omega), borderL_len ht (by omega) (by omega), rfl, rfl, fun k p hk => border_in ht (by omega) hlt (by omega) hne k p hk⟩) (fun w hw => ?_)
                exact gtBetween_near pW pH a l c s x y w hc0 hw ht hx.1 hx.2 hy.1 hy.2 hne
            · exact gb_out pW pH a l.length c s x y w hn hc0 ht (.inr hy)
          · exact gb_out pW pH a l.length c s x y w hn hc0 ht (.inl hx)
      · have eg : gateE W H pW pH l.length = 1 := by simp only [gateE, hc0, if_true, if_neg he]
        refine gb_bad W H a l.length c pW pH s x y 1 w hn (by decide) ?_ (fun w => ?_)
        · simp only [mayE, hc0, if_true]
          rw [if_neg (fun h => he ⟨h.1, h.2.1⟩)]
        · have h := gtBetween_chk W H a l.length c pW pH s x y w (by rw [eg]; rfl)
          rwa [eg] at h
    · have eg : gateE W H pW pH l.length = checkE W H l.length := by simp only [gateE, if_neg hc0]
      refine gb_bad W H a l.length c pW pH s x y _ w hn hc0 (by simp only [mayE, if_neg hc0]) (fun w => ?_)
      have h := gtBetween_chk W H a l.length c pW pH s x y w (by rw [eg]; simpa using hc0)
      rwa [eg] at h
  · exact gb_far W H a l.length c pW pH s x y w hn

set_option maxRecDepth 100000 in
theorem gateBetween_lifted (os : Os) (started : os.Started) (H : Type) (enc : TypeId × Value → H) :
    ReturnsInHanded {} Try.checked os 3 .any (Rows.gateBetweenSpec.pre6 enc Try.prog Try.f3 Rows.gateBetweenRow.domain false) (Rows.gateBetweenSpec.post enc Try.prog Try.f3 false true false false) := by
  refine returnsInHanded_of_change (C := Try.checked) own started (by kernel_rfl) Try.func3
    (ChangeSpec.witness6 (enc := enc) (C := Try.checked) false ⟨#[], #[.agg #[.int .i64 0, .int .i64 0, .slice none 0 0], .agg #[.int .i64 0, .int .i64 0, .int .i64 0], .agg #[.int .i64 0, .int .i64 0]], []⟩ 8 (by kernel_rfl) (by kernel_rfl) (by kernel_rfl) (by kernel_rfl)) ?_
  intro W base args ds gs before hval0 hW hcnd hsz
  have hval : ∀ (j : Nat) t v, Try.f3.params[j]? = some t → args[j]? = some v → Value.okWide Try.prog W .any base t v := hval0
  have hW' := hW
  obtain ⟨p, q, hA0, hV, rfl, hfz, hnd⟩ := hW
  have hA : DataW.TrodAll enc Try.prog W 0 (fun _ => true) true Try.f3.params.toList args.toList ds p := hA0
  rw [Try.params3] at hA hval
  obtain ⟨v0, vs0, d0, ds0, p0, q0, hargs, rfl, rfl, h0, r0⟩ := trodAll_cons hA
  obtain ⟨v1, vs1, d1, ds1, p1, q1, rfl, rfl, rfl, h1, r1⟩ := trodAll_cons r0
  obtain ⟨v2, vs2, d2, ds2, p2, q2, rfl, rfl, rfl, h2, r2⟩ := trodAll_cons r1
  obtain ⟨rfl, rfl, rfl⟩ := trodAll_nil r2
  obtain rfl : args = #[v0, v1, v2] := by cases args; simp_all
  obtain ⟨rfl, rfl⟩ := trodVars_none hV
  have k0 := h0
  have lt0 : ∀ x ∈ p0, x.block < W.heap.size := by obtain ⟨m, hm⟩ := k0; exact DataW.trod_lt m _ _ _ hm
  have k1 := h1
  have lt1 : ∀ x ∈ p1, x.block < W.heap.size := by obtain ⟨m, hm⟩ := k1; exact DataW.trod_lt m _ _ _ hm
  have k2 := h2
  have lt2 : ∀ x ∈ p2, x.block < W.heap.size := by obtain ⟨m, hm⟩ := k2; exact DataW.trod_lt m _ _ _ hm
  obtain ⟨W0, H0, a0, l0, c0, rfl, fv0⟩ := open_field (hval 0 26 v0 rfl rfl) h0
  obtain ⟨W1, H1, s1, rfl, iW1, iH1, is1⟩ := open_parts (hval 1 28 v1 rfl rfl) h1
  obtain ⟨x2, y2, rfl, ix2, iy2⟩ := open_arr2 (hval 2 29 v2 rfl rfl) h2
  clear hA0 hval0
  refine (gateBetween_any W0 H0 a0 l0 c0 W1 H1 s1 x2 y2 W fv0.2.2.2.1 fv0.2.2.2.2).mono fun e W' ⟨he, bel⟩ => ?_
  subst he
  exact ⟨_, rfl, _, _, _, [], _, [], hW', trodAll_mk1 (shut_bool Try.underlying4 _), (trodAll_cons_mk (Below.trod laidOut (by kernel_rfl) (of_decide_eq_true (by kernel_rfl)) k0 bel lt0) (trodAll_cons_mk (Below.trod laidOut (by kernel_rfl) (of_decide_eq_true (by kernel_rfl)) k1 bel lt1) (trodAll_cons_mk (Below.trod laidOut (by kernel_rfl) (of_decide_eq_true (by kernel_rfl)) k2 bel lt2) trodAll_mk0))), rfl, Below.frame bel _, fun h => by cases h⟩

theorem gateBetween_holds : Rows.GateBetweenSaid :=
  OpenClaim.holds_of_wide 3 Try.f3 rfl rfl rfl rfl rfl rfl rfl ⟨rfl, rfl, rfl, rfl, rfl⟩ rfl rfl rfl rfl rfl (by kernel_rfl) Try.func3 (by kernel_rfl)
    (of_decide_eq_true (by kernel_rfl)) (by unfold Func.isWrapper; first | (rw [if_pos (by decide +kernel)]; kernel_rfl) | (rw [if_neg (by decide +kernel)]; exact ⟨rfl, rfl⟩))
    (fun os started H enc _ => gateBetween_lifted os started H enc)
#print axioms gateBetween_holds
end Go.Proofs.Ytkonojjillcfiaa
