/- Part 6 of 14 of the proof of StarBudget. -/
import Derived.Test.YtkonojjillcfiaaStarBudgetP05
import Derived.BigRegion
import Derived.Test.YtkonojjillcfiaaStarBudgetP03
import Derived.Test.YtkonojjillcfiaaStarBudgetP01
import Derived.RangeFuncNested
import Derived.RangeFuncBound
import Derived.RangeFuncCalls
import Derived.RangeFuncLeaves
import Derived.Stop.RegionWithIn
import Derived.Shelf.Abstract
set_option linter.all false
set_option linter.unusedVariables false
set_option linter.unusedSimpArgs false
/- Walks of look, Within, From. -/
namespace Go.Proofs.Ytkonojjillcfiaa
open Go.RowKit

/-- What is wrong with a field, a box and a cell. -/
def lookE (W H : Int) (n : Nat) (bx byy bw bh x y : Int) : Int := if checkE W H n = 0 then (if fitsR W H bx byy bw bh = true ∧ hasB bx byy bw bh x y = true then 0 else 10) else checkE W H n

theorem lookE_ok {W H : Int} {n : Nat} {bx byy bw bh x y : Int} : lookE W H n bx byy bw bh x y = 0 ↔ mayB W H = true ∧ (n : Int) = W * H ∧ fitsR W H bx byy bw bh = true ∧ hasB bx byy bw bh x y = true := by
  unfold lookE
  split
  · next h =>
    rw [checkE_ok] at h
    split
    · next h2 => simp [h, h2]
    · next h2 => simp only [h.1, h.2, true_and]; exact ⟨fun e => absurd e (by decide), fun e => absurd e h2⟩
  · next h =>
    constructor
    · intro e; exact absurd e h
    · intro e; exact absurd (checkE_ok.2 ⟨e.1, e.2.1⟩) h

set_option maxRecDepth 100000 in
theorem fLook_bad {w : World} (W H : Int) (a : Option Addr) (n c : Nat) (bx byy bw bh x y : Int) (he : lookE W H n bx byy bw bh x y ≠ 0) :
    Calls Try.prog 69 #[.agg #[.int .i64 W, .int .i64 H, .slice a n c], .agg #[.int .i64 bx, .int .i64 byy, .int .i64 bw, .int .i64 bh], .agg #[.int .i64 x, .int .i64 y]] w fun e w' => e = .returned (.tuple #[.agg #[.int .i64 0, .int .i64 0, .slice none 0 0, .int .i64 0, .int .i64 0, .int .i64 0, .int .i64 0], .int .i64 (lookE W H n bx byy bw bh x y)]) ∧ Ext w w' := by
  have HC := hide (fun w' => gCheck_any W H a n c w')
  have HF := hide (fun w' => gFits_any W H bx byy bw bh w')
  have HH := hide (fun w' => gHas_any bx byy bw bh x y w')
  by_cases hc : checkE W H n = 0
  · have hm := (checkE_ok.1 hc).1
    rw [hc] at HC
    rw [fitsG_eq hm] at HF
    have e0 : lookE W H n bx byy bw bh x y = 10 := by
      unfold lookE at he ⊢
      rw [if_pos hc] at he ⊢
      split at he
      · exact absurd rfl he
      · next h => rw [if_neg h]
    rw [e0]
    cases hf : fitsR W H bx byy bw bh
    · rw [hf] at HF
      clear he e0 hc hm hf
      go_enter Try.func69, Try.ntmps69
      go_wp2_with (first
        | (go_at_call 48; refine (HC.out _).mono ?_; rintro e w1 ⟨rfl, hb1⟩; obtain ⟨hc1, hf1⟩ := hb1.cells; have hz1 := hb1.size; (repeat (first | rw [World.size_alloc] at hz1 | rw [World.size_drew] at hz1)); have z1_0 : w.heap.size < w1.heap.size := (by omega); have z1_1 : w.heap.size + 1 < w1.heap.size := (by omega); have z1_2 : w.heap.size + 2 < w1.heap.size := (by omega); have z1_3 : w.heap.size + 3 < w1.heap.size := (by omega))
        | (go_at_call 93; refine (HF.out _).mono ?_; rintro e w2 ⟨rfl, hb2⟩; obtain ⟨hc2, hf2⟩ := hb2.cells; have hz2 := hb2.size; (repeat (first | rw [World.size_alloc] at hz2 | rw [World.size_drew] at hz2)); have z2_0 : w.heap.size < w2.heap.size := (by omega); have z2_1 : w.heap.size + 1 < w2.heap.size := (by omega); have z2_2 : w.heap.size + 2 < w2.heap.size := (by omega); have z2_3 : w.heap.size + 3 < w2.heap.size := (by omega))
        | (go_at_call 71; refine (HH.out _).mono ?_; rintro e w3 ⟨rfl, hb3⟩; obtain ⟨hc3, hf3⟩ := hb3.cells; have hz3 := hb3.size; (repeat (first | rw [World.size_alloc] at hz3 | rw [World.size_drew] at hz3)); have z3_0 : w.heap.size < w3.heap.size := (by omega); have z3_1 : w.heap.size + 1 < w3.heap.size := (by omega); have z3_2 : w.heap.size + 2 < w3.heap.size := (by omega); have z3_3 : w.heap.size + 3 < w3.heap.size := (by omega)))
      exact bodyPost_ret (v := .tuple #[.agg #[.int .i64 0, .int .i64 0, .slice none 0 0, .int .i64 0, .int .i64 0, .int .i64 0, .int .i64 0], .int .i64 10]) (by simp [results, Try.results69, go_sem, *]) rfl ⟨rfl, (by (with_reducible (repeat' (first | exact Ext.refl _ | assumption | refine Ext.drew ?_ | refine Ext.drewN ?_ _ | refine Ext.alloc ?_ _ | refine Ext.setCell ?_ ?_ _ | refine Ext.trans ?_ (by assumption)))); all_goals (first | (simp; done) | (simp; omega)))⟩
    · rw [hf] at HF
      rw [hasG_eq hm hf] at HH
      have hh : hasB bx byy bw bh x y = false := by
        cases h : hasB bx byy bw bh x y
        · rfl
        · exact absurd (lookE_ok.2 ⟨hm, (checkE_ok.1 hc).2, hf, h⟩) he
      rw [hh] at HH
      clear he e0 hc hm hf hh
      go_enter Try.func69, Try.ntmps69
      go_wp2_with (first
        | (go_at_call 48; refine (HC.out _).mono ?_; rintro e w1 ⟨rfl, hb1⟩; obtain ⟨hc1, hf1⟩ := hb1.cells; have hz1 := hb1.size; (repeat (first | rw [World.size_alloc] at hz1 | rw [World.size_drew] at hz1)); have z1_0 : w.heap.size < w1.heap.size := (by omega); have z1_1 : w.heap.size + 1 < w1.heap.size := (by omega); have z1_2 : w.heap.size + 2 < w1.heap.size := (by omega); have z1_3 : w.heap.size + 3 < w1.heap.size := (by omega))
        | (go_at_call 93; refine (HF.out _).mono ?_; rintro e w2 ⟨rfl, hb2⟩; obtain ⟨hc2, hf2⟩ := hb2.cells; have hz2 := hb2.size; (repeat (first | rw [World.size_alloc] at hz2 | rw [World.size_drew] at hz2)); have z2_0 : w.heap.size < w2.heap.size := (by omega); have z2_1 : w.heap.size + 1 < w2.heap.size := (by omega); have z2_2 : w.heap.size + 2 < w2.heap.size := (by omega); have z2_3 : w.heap.size + 3 < w2.heap.size := (by omega))
        | (go_at_call 71; refine (HH.out _).mono ?_; rintro e w3 ⟨rfl, hb3⟩; obtain ⟨hc3, hf3⟩ := hb3.cells; have hz3 := hb3.size; (repeat (first | rw [World.size_alloc] at hz3 | rw [World.size_drew] at hz3)); have z3_0 : w.heap.size < w3.heap.size := (by omega); have z3_1 : w.heap.size + 1 < w3.heap.size := (by omega); have z3_2 : w.heap.size + 2 < w3.heap.size := (by omega); have z3_3 : w.heap.size + 3 < w3.heap.size := (by omega)))
      exact bodyPost_ret (v := .tuple #[.agg #[.int .i64 0, .int .i64 0, .slice none 0 0, .int .i64 0, .int .i64 0, .int .i64 0, .int .i64 0], .int .i64 10]) (by simp [results, Try.results69, go_sem, *]) rfl ⟨rfl, (by (with_reducible (repeat' (first | exact Ext.refl _ | assumption | refine Ext.drew ?_ | refine Ext.drewN ?_ _ | refine Ext.alloc ?_ _ | refine Ext.setCell ?_ ?_ _ | refine Ext.trans ?_ (by assumption)))); all_goals (first | (simp; done) | (simp; omega)))⟩
  · have e0 : lookE W H n bx byy bw bh x y = checkE W H n := by unfold lookE; rw [if_neg hc]
    rw [e0]
    clear e0 he
    generalize checkE W H n = ce at *
    have hce : (ce != 0) = true := by simpa using hc
    clear hc
    go_enter Try.func69, Try.ntmps69
    go_wp2_with (first
        | (go_at_call 48; refine (HC.out _).mono ?_; rintro e w1 ⟨rfl, hb1⟩; obtain ⟨hc1, hf1⟩ := hb1.cells; have hz1 := hb1.size; (repeat (first | rw [World.size_alloc] at hz1 | rw [World.size_drew] at hz1)); have z1_0 : w.heap.size < w1.heap.size := (by omega); have z1_1 : w.heap.size + 1 < w1.heap.size := (by omega); have z1_2 : w.heap.size + 2 < w1.heap.size := (by omega); have z1_3 : w.heap.size + 3 < w1.heap.size := (by omega))
        | (go_at_call 93; refine (HF.out _).mono ?_; rintro e w2 ⟨rfl, hb2⟩; obtain ⟨hc2, hf2⟩ := hb2.cells; have hz2 := hb2.size; (repeat (first | rw [World.size_alloc] at hz2 | rw [World.size_drew] at hz2)); have z2_0 : w.heap.size < w2.heap.size := (by omega); have z2_1 : w.heap.size + 1 < w2.heap.size := (by omega); have z2_2 : w.heap.size + 2 < w2.heap.size := (by omega); have z2_3 : w.heap.size + 3 < w2.heap.size := (by omega))
        | (go_at_call 71; refine (HH.out _).mono ?_; rintro e w3 ⟨rfl, hb3⟩; obtain ⟨hc3, hf3⟩ := hb3.cells; have hz3 := hb3.size; (repeat (first | rw [World.size_alloc] at hz3 | rw [World.size_drew] at hz3)); have z3_0 : w.heap.size < w3.heap.size := (by omega); have z3_1 : w.heap.size + 1 < w3.heap.size := (by omega); have z3_2 : w.heap.size + 2 < w3.heap.size := (by omega); have z3_3 : w.heap.size + 3 < w3.heap.size := (by omega)))
    exact bodyPost_ret (v := .tuple #[.agg #[.int .i64 0, .int .i64 0, .slice none 0 0, .int .i64 0, .int .i64 0, .int .i64 0, .int .i64 0], .int .i64 ce]) (by simp [results, Try.results69, go_sem, *]) rfl ⟨rfl, (by (with_reducible (repeat' (first | exact Ext.refl _ | assumption | refine Ext.drew ?_ | refine Ext.drewN ?_ _ | refine Ext.alloc ?_ _ | refine Ext.setCell ?_ ?_ _ | refine Ext.trans ?_ (by assumption)))); all_goals (first | (simp; done) | (simp; omega)))⟩

set_option maxRecDepth 100000 in
theorem fLook_ok {w : World} (W H : Int) (a : Option Addr) (n c : Nat) (bx byy bw bh x y : Int) (he : lookE W H n bx byy bw bh x y = 0) :
    Calls Try.prog 69 #[.agg #[.int .i64 W, .int .i64 H, .slice a n c], .agg #[.int .i64 bx, .int .i64 byy, .int .i64 bw, .int .i64 bh], .agg #[.int .i64 x, .int .i64 y]] w fun e w' => e = .returned (.tuple #[.agg #[.int .i64 W, .int .i64 H, .slice a n c, .int .i64 bx, .int .i64 byy, .int .i64 bw, .int .i64 bh], .int .i64 0]) ∧ Ext w w' := by
  have HC := hide (fun w' => gCheck_any W H a n c w')
  have HF := hide (fun w' => gFits_any W H bx byy bw bh w')
  have HH := hide (fun w' => gHas_any bx byy bw bh x y w')
  obtain ⟨hm, hl, hf, hh⟩ := lookE_ok.1 he
  rw [checkE_ok.2 ⟨hm, hl⟩] at HC
  rw [fitsG_eq hm, hf] at HF
  rw [hasG_eq hm hf, hh] at HH
  clear he hm hl hf hh
  go_enter Try.func69, Try.ntmps69
  go_wp2_with (first
        | (go_at_call 48; refine (HC.out _).mono ?_; rintro e w1 ⟨rfl, hb1⟩; obtain ⟨hc1, hf1⟩ := hb1.cells; have hz1 := hb1.size; (repeat (first | rw [World.size_alloc] at hz1 | rw [World.size_drew] at hz1)); have z1_0 : w.heap.size < w1.heap.size := (by omega); have z1_1 : w.heap.size + 1 < w1.heap.size := (by omega); have z1_2 : w.heap.size + 2 < w1.heap.size := (by omega); have z1_3 : w.heap.size + 3 < w1.heap.size := (by omega))
        | (go_at_call 93; refine (HF.out _).mono ?_; rintro e w2 ⟨rfl, hb2⟩; obtain ⟨hc2, hf2⟩ := hb2.cells; have hz2 := hb2.size; (repeat (first | rw [World.size_alloc] at hz2 | rw [World.size_drew] at hz2)); have z2_0 : w.heap.size < w2.heap.size := (by omega); have z2_1 : w.heap.size + 1 < w2.heap.size := (by omega); have z2_2 : w.heap.size + 2 < w2.heap.size := (by omega); have z2_3 : w.heap.size + 3 < w2.heap.size := (by omega))
        | (go_at_call 71; refine (HH.out _).mono ?_; rintro e w3 ⟨rfl, hb3⟩; obtain ⟨hc3, hf3⟩ := hb3.cells; have hz3 := hb3.size; (repeat (first | rw [World.size_alloc] at hz3 | rw [World.size_drew] at hz3)); have z3_0 : w.heap.size < w3.heap.size := (by omega); have z3_1 : w.heap.size + 1 < w3.heap.size := (by omega); have z3_2 : w.heap.size + 2 < w3.heap.size := (by omega); have z3_3 : w.heap.size + 3 < w3.heap.size := (by omega)))
  exact bodyPost_ret (v := .tuple #[.agg #[.int .i64 W, .int .i64 H, .slice a n c, .int .i64 bx, .int .i64 byy, .int .i64 bw, .int .i64 bh], .int .i64 0]) (by simp [results, Try.results69, go_sem, *]) rfl ⟨rfl, (by (with_reducible (repeat' (first | exact Ext.refl _ | assumption | refine Ext.drew ?_ | refine Ext.drewN ?_ _ | refine Ext.alloc ?_ _ | refine Ext.setCell ?_ ?_ _ | refine Ext.trans ?_ (by assumption)))); all_goals (first | (simp; done) | (simp; omega)))⟩

theorem land_of {w : World} {W H : Int} {a : Option Addr} {l : List Int} {bx byy bw bh x y : Int} (he : lookE W H l.length bx byy bw bh x y = 0) (hr : Row16 w a l) (hu : U16s l) : LandAt w W H a l bx byy bw bh := by
  obtain ⟨hm, hl, hf, hh⟩ := lookE_ok.1 he
  exact ⟨hm, hl, hr, hu, hf⟩
theorem landP_of {W H : Int} {l : List Int} {bx byy bw bh x y : Int} (he : lookE W H l.length bx byy bw bh x y = 0) (hu : U16s l) : LandP W H l bx byy bw bh := by
  obtain ⟨hm, hl, hf, hh⟩ := lookE_ok.1 he
  exact ⟨hm, hl, hu, hf⟩

theorem far_wall {W H : Int} {l : List Int} {bx byy bw bh : Int} (L : LandP W H l bx byy bw bh) {s : Nat} (h : (mapNet L).op s = false) : IsFar (mapNet L) s (fun _ => infI) ∧ FarLow (mapNet L) (fun _ => infI) :=
  ⟨⟨(fun e => by rw [h] at e; cases e), (fun _ _ => rfl), (fun _ => by decide), (fun _ => Int.le_refl _), (fun v hv _ u _ _ h2 => by have := (mapNet L).pos v hv; omega), fun v _ _ h2 => absurd h2 (Int.lt_irrefl _)⟩, fun v h2 => absurd h2 (Int.lt_irrefl _)⟩

theorem fFlood_any {w : World} {W H : Int} {a : Option Addr} {l : List Int} {bx byy bw bh : Int} (L : LandAt w W H a l bx byy bw bh) (c : Nat) (x y : Int) (hin : hasB bx byy bw bh x y = true) :
    Calls Try.prog 70 #[.agg #[.int .i64 W, .int .i64 H, .slice a l.length c, .int .i64 bx, .int .i64 byy, .int .i64 bw, .int .i64 bh], .agg #[.int .i64 x, .int .i64 y]] w fun e w' =>
      ∃ v far, e = .returned v ∧ Ext w w' ∧ Own u64E w' w.heap.size 53 v (farL far l.length) ∧ IsFar (mapNet L.plain) (idxN W (x, y)) far ∧ FarLow (mapNet L.plain) far := by
  cases ho : openB l W bx byy bw bh x y
  · refine (fFlood_shut L c x y ho).mono ?_
    rintro e w' ⟨v, h1, h2, h3⟩
    have := L.plain.opV_idx (L.plain.in_ hin)
    rw [ho] at this
    exact ⟨v, _, h1, h2, h3, far_wall L.plain this⟩
  · exact fFlood_open L c x y ho

set_option maxRecDepth 100000 in
theorem fWithin_bad {w : World} (W H : Int) (a : Option Addr) (n c : Nat) (bx byy bw bh x y : Int) (he : lookE W H n bx byy bw bh x y ≠ 0) :
    Calls Try.prog 35 #[.agg #[.int .i64 W, .int .i64 H, .slice a n c], .agg #[.int .i64 bx, .int .i64 byy, .int .i64 bw, .int .i64 bh], .agg #[.int .i64 x, .int .i64 y]] w fun e w' => e = .returned (.tuple #[.slice none 0 0, .int .i64 (lookE W H n bx byy bw bh x y)]) ∧ Ext w w' := by
  have HL := hide (fun (w' : World) => fLook_bad (w := w') W H a n c bx byy bw bh x y he)
  generalize lookE W H n bx byy bw bh x y = le at *
  have hle : (le != 0) = true := by simpa using he
  clear he
  go_enter Try.func35, Try.ntmps35
  go_wp2_with (go_at_call 69; refine (HL.out _).mono ?_; rintro e w1 ⟨rfl, hb1⟩)
  exact bodyPost_ret (v := .tuple #[.slice none 0 0, .int .i64 le]) (by simp [results, Try.results35, go_sem, *]) rfl ⟨rfl, (by (with_reducible (repeat' (first | exact Ext.refl _ | assumption | refine Ext.drew ?_ | refine Ext.drewN ?_ _ | refine Ext.alloc ?_ _ | refine Ext.setCell ?_ ?_ _ | refine Ext.trans ?_ (by assumption)))); all_goals (first | (simp; done) | (simp; omega)))⟩

set_option maxRecDepth 100000 in
theorem fWithin_ok {w : World} {W H : Int} {a : Option Addr} {l : List Int} {bx byy bw bh x y : Int} (c : Nat) (he : lookE W H l.length bx byy bw bh x y = 0) (hr : Row16 w a l) (hu : U16s l) :
    Calls Try.prog 35 #[.agg #[.int .i64 W, .int .i64 H, .slice a l.length c], .agg #[.int .i64 bx, .int .i64 byy, .int .i64 bw, .int .i64 bh], .agg #[.int .i64 x, .int .i64 y]] w fun e w' =>
      ∃ v far, e = .returned (.tuple #[v, .int .i64 0]) ∧ Ext w w' ∧ Own u64E w' w.heap.size 53 v (farL far l.length) ∧ IsFar (mapNet (landP_of he hu)) (idxN W (x, y)) far ∧ FarLow (mapNet (landP_of he hu)) far := by
  have HL := hide (fun (w' : World) => fLook_ok (w := w') W H a l.length c bx byy bw bh x y he)
  have HF := hide (fun (w' : World) (hx : Ext w w') => fFlood_any ((land_of he hr hu).ext hx) c x y (lookE_ok.1 he).2.2.2)
  obtain ⟨G, hG⟩ : ∃ G, mapNet (landP_of he hu) = G := ⟨_, rfl⟩
  rw [hG]
  have HF2 := hide (fun (w' : World) (hx : Ext w w') => (by have := HF.out w' hx; rw [hG] at this; exact this : Calls Try.prog 70 #[.agg #[.int .i64 W, .int .i64 H, .slice a l.length c, .int .i64 bx, .int .i64 byy, .int .i64 bw, .int .i64 bh], .agg #[.int .i64 x, .int .i64 y]] w' fun e w'' =>
      ∃ v far, e = .returned v ∧ Ext w' w'' ∧ Own u64E w'' w'.heap.size 53 v (farL far l.length) ∧ IsFar G (idxN W (x, y)) far ∧ FarLow G far))
  generalize idxN W (x, y) = s at *
  obtain ⟨n, hn⟩ : ∃ n, l.length = n := ⟨_, rfl⟩
  rw [hn] at HL HF2 ⊢
  clear HF hG hr hu hn he
  go_enter Try.func35, Try.ntmps35
  go_wp2_with (go_at_call 69; refine (HL.out _).mono ?_; rintro e w1 ⟨rfl, hb1⟩; obtain ⟨hc1, hf1⟩ := hb1.cells; have hz1 := hb1.size; (repeat (first | rw [World.size_alloc] at hz1 | rw [World.size_drew] at hz1)); have z1_0 : w.heap.size < w1.heap.size := (by omega); have z1_1 : w.heap.size + 1 < w1.heap.size := (by omega); have z1_2 : w.heap.size + 2 < w1.heap.size := (by omega))
  refine (HF2.out _ (by (with_reducible (repeat' (first | exact Ext.refl _ | assumption | refine Ext.drew ?_ | refine Ext.drewN ?_ _ | refine Ext.alloc ?_ _ | refine Ext.setCell ?_ ?_ _ | refine Ext.trans ?_ (by assumption)))); all_goals (first | (simp; done) | (simp; omega)))).mono ?_
  rintro e w2 ⟨v, far, rfl, hx2, hv, h1, h2⟩
  have hxx : Ext w w2 := (by (with_reducible (repeat' (first | exact Ext.refl _ | assumption | refine Ext.drew ?_ | refine Ext.drewN ?_ _ | refine Ext.alloc ?_ _ | refine Ext.setCell ?_ ?_ _ | refine Ext.trans ?_ (by assumption)))); all_goals (first | (simp; done) | (simp; omega)))
  have HV := hide (hv.lower (base' := w.heap.size) (by simp; omega))
  have H1 := hide h1
  have H2 := hide h2
  clear hv h1 h2
  go_wp2
  exact bodyPost_ret (v := .tuple #[v, .int .i64 0]) (by simp [results, Try.results35, go_sem, *]) rfl ⟨v, far, rfl, hxx, HV.out, H1.out, H2.out⟩
end Go.Proofs.Ytkonojjillcfiaa

/- Walks of slices.Reverse, slices.IndexFunc over cells, and of the test within back. -/
namespace Go.Proofs.Ytkonojjillcfiaa
open Go.RowKit

set_option maxRecDepth 100000 in
theorem fBack11_any {w : World} {W H : Int} {a : Option Addr} {n c : Nat} {bx byy bw bh : Int} {bl bf bq g cg base : Nat} {far : Nat → Int} (cx cy want : Int)
    (ls : LandB bl W H a n c bx byy bw bh w) (hm : mayB W H = true) (hn : (n : Int) = W * H) (fb : w.cell? ⟨bf, 0, none⟩ = some (.slice (some ⟨g, 0, none⟩) n cg)) (fq : w.cell? ⟨bq, 0, none⟩ = some (.int .u64 want)) (fa : FarAt w base g cg far n)
    (h1 : 0 ≤ cx) (h2 : cx < W) (h3 : 0 ≤ cy) (h4 : cy < H) (zl : bl < w.heap.size) (zf : bf < w.heap.size) (zq : bq < w.heap.size) :
    Calls Try.prog 101 #[.agg #[.int .i64 cx, .int .i64 cy], .pointer (some ⟨bf, 0, none⟩), .pointer (some ⟨bl, 0, none⟩), .pointer (some ⟨bq, 0, none⟩)] w fun e w' => e = .returned (.bool (decide (far (idxN W (cx, cy)) = want))) ∧ Ext w w' := by
  have hW := mayB_true.1 hm
  obtain ⟨j, hj⟩ : ∃ j, idxN W (cx, cy) = j := ⟨_, rfl⟩
  have hji := idx_int (W := W) h1 (by omega) h3
  have ib := idx_bd h1 h2 h3 h4
  have hjn : j < n := by omega
  have HA := hide (fun w' => fAt_any W H a n c bx byy bw bh cx cy w' hm h1 h2 h3 h4)
  rw [hj] at hji ⊢
  rw [← hji] at HA
  have FJ := (fa.cell hjn).1
  have zg := fa.lt.2
  obtain ⟨fj, hfj⟩ : ∃ fj, far j = fj := ⟨_, rfl⟩
  rw [hfj] at FJ ⊢
  obtain ⟨q0, q1, q2, q3, q4, q5, q6⟩ := ls
  have hji2 : (j : Int) < (n : Int) := by omega
  clear hj hji ib hfj fa hm hn hW
  go_enter Try.func101, Try.ntmps101
  go_wp2_with fail
  obtain ⟨w0, hw0⟩ : ∃ w0, w0 = w.alloc (.cells #[.int .i64 cx, .int .i64 cy] 49) := ⟨_, rfl⟩
  have hx0 : Ext w w0 := by rw [hw0]; exact (by (with_reducible (repeat' (first | exact Ext.refl _ | assumption | refine Ext.drew ?_ | refine Ext.drewN ?_ _ | refine Ext.alloc ?_ _ | refine Ext.setCell ?_ ?_ _ | refine Ext.trans ?_ (by assumption)))); all_goals (first | (simp; done) | (simp; omega)))
  have z0 : w.heap.size < w0.heap.size := by rw [hw0]; simp
  have p0 : w0.cell? ⟨w.heap.size, 0, none⟩ = some (.int .i64 cx) := by rw [hw0]; simp [go_sem]
  have p1 : w0.cell? ⟨w.heap.size, 1, none⟩ = some (.int .i64 cy) := by rw [hw0]; simp [go_sem]
  have r0 := (hx0.cell (p := ⟨bl, 0, none⟩) zl).trans q0
  have r1 := (hx0.cell (p := ⟨bl, 1, none⟩) zl).trans q1
  have r2 := (hx0.cell (p := ⟨bl, 2, none⟩) zl).trans q2
  have r3 := (hx0.cell (p := ⟨bl, 3, none⟩) zl).trans q3
  have r4 := (hx0.cell (p := ⟨bl, 4, none⟩) zl).trans q4
  have r5 := (hx0.cell (p := ⟨bl, 5, none⟩) zl).trans q5
  have r6 := (hx0.cell (p := ⟨bl, 6, none⟩) zl).trans q6
  have s0 := (hx0.cell (p := ⟨bf, 0, none⟩) zf).trans fb
  have s1 := (hx0.cell (p := ⟨bq, 0, none⟩) zq).trans fq
  have s2 := (hx0.cell (p := ⟨g, j, none⟩) zg).trans FJ
  have y0 : bl < w0.heap.size := by omega
  have y1 : bf < w0.heap.size := by omega
  have y2 : bq < w0.heap.size := by omega
  have y3 : g < w0.heap.size := by omega
  rw [← hw0]
  clear hw0 q0 q1 q2 q3 q4 q5 q6 fb fq FJ zl zf zq zg
  refine wp_region_held_drew (S := (fun W => (∀ b o, b < w0.heap.size → W.cell? ⟨b, o, none⟩ = w0.cell? ⟨b, o, none⟩) ∧ Ext w0 W)) (by kernel_rfl) (by first | with_reducible exact pr_start _ | exact pr_of (by (with_reducible (repeat' (first | exact Ext.refl _ | assumption | refine Ext.drew ?_ | refine Ext.drewN ?_ _ | refine Ext.alloc ?_ _ | refine Ext.setCell ?_ ?_ _ | refine Ext.trans ?_ (by assumption)))); all_goals (first | (simp; done) | (simp; omega)))) (fun hHeld => ?_)
  (((refine wpAnyH_take (i := 0) (oi := ?g62_o) (v := ?g62_v) ?g62_hi (by kernel_rfl) (by kernel_rfl) (by kernel_rfl) ?g62_hq ?g62_hy (by assumption) ?g62_gr; (case g62_hi => (simp only [List.getElem?_toArray, List.getElem?_cons_zero]; rfl)); (case g62_hq => exact fun _ _ _ h => h); (case g62_hy => (refine Or.inl ⟨by rfl, ?_⟩; intro w hSw; (try dsimp only at hSw); go_simp; try with_reducible rfl)); try simp only [Act.put, List.setIfInBounds_toArray, List.set_cons_zero, List.set_cons_succ])); ((refine wpAnyH_take (i := 1) (oi := ?g63_o) (v := ?g63_v) ?g63_hi (by kernel_rfl) (by kernel_rfl) (by kernel_rfl) ?g63_hq ?g63_hy (by assumption) ?g63_gr; (case g63_hi => (simp only [List.getElem?_toArray, List.getElem?_cons_succ, List.getElem?_cons_zero]; rfl)); (case g63_hq => exact fun _ _ _ h => h); (case g63_hy => (refine Or.inl ⟨by rfl, ?_⟩; intro w hSw; (try dsimp only at hSw); go_simp; try with_reducible rfl)); try simp only [Act.put, List.setIfInBounds_toArray, List.set_cons_zero, List.set_cons_succ])); ((refine wpAnyH_take (i := 2) (oi := ?g64_o) (v := ?g64_v) ?g64_hi (by kernel_rfl) (by kernel_rfl) (by kernel_rfl) ?g64_hq ?g64_hy (by assumption) ?g64_gr; (case g64_hi => (simp only [List.getElem?_toArray, List.getElem?_cons_succ, List.getElem?_cons_zero]; rfl)); (case g64_hq => exact fun _ _ _ h => h); (case g64_hy => (refine Or.inl ⟨by rfl, ?_⟩; intro w hSw; (try dsimp only at hSw); go_simp; try with_reducible rfl)); try simp only [Act.put, List.setIfInBounds_toArray, List.set_cons_zero, List.set_cons_succ])); ((refine wpAnyH_take (i := 6) (oi := ?g65_o) (v := ?g65_v) ?g65_hi (by kernel_rfl) (by kernel_rfl) (by kernel_rfl) ?g65_hq ?g65_hy (by assumption) ?g65_gr; (case g65_hi => (simp only [List.getElem?_toArray, List.getElem?_cons_succ, List.getElem?_cons_zero]; rfl)); (case g65_hq => exact fun _ _ _ h => h); (case g65_hy => (refine Or.inl ⟨by rfl, ?_⟩; intro w hSw; (try dsimp only at hSw); go_simp; try with_reducible rfl)); try simp only [Act.put, List.setIfInBounds_toArray, List.set_cons_zero, List.set_cons_succ])))
  (refine wpAnyH_ready (rs := [3]) (by kernel_rfl) (by simp) ?_; refine AllReadyH.cons (o := ?g66_o) ?g66_hi (fun K hK => ?_) AllReadyH.nil; (case g66_hi => (simp only [List.getElem?_toArray, List.getElem?_cons_succ, List.getElem?_cons_zero]; rfl)); go_simp; refine (HA.out _).mono ?_; rintro e w2 ⟨rfl, hb2⟩; go_wp2_with fail; refine hK.out _ _ (pr_of (by (with_reducible (repeat' (first | exact Ext.refl _ | assumption | refine Ext.drew ?_ | refine Ext.drewN ?_ _ | refine Ext.alloc ?_ _ | refine Ext.setCell ?_ ?_ _ | refine Ext.trans ?_ (by assumption)))); all_goals (first | (simp; done) | (simp; omega)))) (fun hHeld => ?_); clear hK K; try simp only [Act.put, List.setIfInBounds_toArray, List.set_cons_zero, List.set_cons_succ])
  (((refine wpAnyH_take (i := 4) (oi := ?g67_o) (v := ?g67_v) ?g67_hi (by kernel_rfl) (by kernel_rfl) (by kernel_rfl) ?g67_hq ?g67_hy (by assumption) ?g67_gr; (case g67_hi => (simp only [List.getElem?_toArray, List.getElem?_cons_succ, List.getElem?_cons_zero]; rfl)); (case g67_hq => exact fun _ _ _ h => h); (case g67_hy => (refine Or.inl ⟨by rfl, ?_⟩; intro w hSw; (try dsimp only at hSw); go_simp; try with_reducible rfl)); try simp only [Act.put, List.setIfInBounds_toArray, List.set_cons_zero, List.set_cons_succ])); ((refine wpAnyH_take (i := 5) (oi := ?g68_o) (v := ?g68_v) ?g68_hi (by kernel_rfl) (by kernel_rfl) (by kernel_rfl) ?g68_hq ?g68_hy (by assumption) ?g68_gr; (case g68_hi => (simp only [List.getElem?_toArray, List.getElem?_cons_succ, List.getElem?_cons_zero]; rfl)); (case g68_hq => exact fun _ _ _ h => h); (case g68_hy => (refine Or.inl ⟨by rfl, ?_⟩; intro w hSw; (try dsimp only at hSw); go_simp; try with_reducible rfl)); try simp only [Act.put, List.setIfInBounds_toArray, List.set_cons_zero, List.set_cons_succ])); ((refine wpAnyH_take (i := 7) (oi := ?g69_o) (v := ?g69_v) ?g69_hi (by kernel_rfl) (by kernel_rfl) (by kernel_rfl) ?g69_hq ?g69_hy (by assumption) ?g69_gr; (case g69_hi => (simp only [List.getElem?_toArray, List.getElem?_cons_succ, List.getElem?_cons_zero]; rfl)); (case g69_hq => exact fun _ _ _ h => h); (case g69_hy => (refine Or.inl ⟨by rfl, ?_⟩; intro w hSw; (try dsimp only at hSw); go_simp; try with_reducible rfl)); try simp only [Act.put, List.setIfInBounds_toArray, List.set_cons_zero, List.set_cons_succ])); ((refine wpAnyH_take (i := 8) (oi := ?g70_o) (v := ?g70_v) ?g70_hi (by kernel_rfl) (by kernel_rfl) (by kernel_rfl) ?g70_hq ?g70_hy (by assumption) ?g70_gr; (case g70_hi => (simp only [List.getElem?_toArray, List.getElem?_cons_succ, List.getElem?_cons_zero]; rfl)); (case g70_hq => exact fun _ _ _ h => h); (case g70_hy => (refine Or.inl ⟨by rfl, ?_⟩; intro w hSw; (try dsimp only at hSw); go_simp; try with_reducible rfl)); try simp only [Act.put, List.setIfInBounds_toArray, List.set_cons_zero, List.set_cons_succ])))
  refine wpAnyH_done (by kernel_rfl) ?_ _
  have hx := hx0.trans hHeld.2
  go_wp2_with fail
  go_ret
  exact ⟨by congr 1, hx⟩

set_option maxHeartbeats 1000000 in
theorem idxCell_any {w : World} {sb : Nat} {m cap f : Nat} {caps : Array Value} {L : List Cell} {p : Cell → Bool} {base k0 : Nat} (hL : L.length = m) (hm : m ≤ 1000) (hv : Own cellE w base 49 (.slice (some ⟨sb, 0, none⟩) m cap) L)
    (hp : ∀ w', Ext w w' → ∀ q, q ∈ L → Calls Try.prog f (#[.agg #[.int .i64 q.1, .int .i64 q.2]] ++ caps) w' fun e w2 => e = .returned (.bool (p q)) ∧ Ext w' w2)
    (eg : ∀ args w, (callFunc f args).run Try.prog w = .ok (.enter f args) w)
    (hk : k0 < m) (hyes : ∀ q, L[k0]? = some q → p q = true) (hno : ∀ j q, j < k0 → L[j]? = some q → p q = false) :
    Calls Try.prog 100 #[.slice (some ⟨sb, 0, none⟩) m cap, .func (.func f) #[] caps] w fun e w' => e = .returned (.int .i64 k0) ∧ Ext w w' := by
  have HV := hide hv
  have HP := hide hp
  have HY := hide hyes
  have HNO := hide hno
  have HL := hide hL
  have zb := (own_lt hv rfl).2
  clear hv hp hyes hno hL
  go_enter Try.func100, Try.ntmps100
  go_wp2
  go_loopw [8] (fun i wr => ∃ k : Nat, k ≤ k0 ∧ i = .int .i64 k ∧ Ext w wr) (fun i _ => m - (intOf i).toNat)
  case atStart => exact ⟨0, Nat.zero_le _, rfl, Ext.refl _⟩
  case round =>
    obtain ⟨k, hkk, rfl, hext⟩ := hrel
    have hz := hext.size
    have hkm : k < m := by omega
    obtain ⟨q, hq⟩ : ∃ q, L[k]? = some q := ⟨_, List.getElem?_eq_getElem (by rw [HL.out]; exact hkm)⟩
    obtain ⟨d0, d1, _⟩ := cell_cells (HV.out.ext hext) hq
    have hki : (k : Int) < (m : Int) := by omega
    have HQ := hide (fun w' (hx : Ext wr w') => HP.out w' (hext.trans hx) q (List.mem_of_getElem? hq))
    have zr : sb < wr.heap.size := by omega
    by_cases hlt : k < k0
    · have hf := HNO.out k q hlt hq
      rw [hf] at HQ
      clear hq hf
      go_wp2_with fail
      refine (HQ.out _ (Ext.refl _)).mono ?_
      rintro e w2 ⟨rfl, hb2⟩
      go_wp2
      go_roundw
      case rel => exact ⟨k + 1, by omega, by go_num, hext.trans hb2⟩
      case measure => simp [intOf]; omega
    · obtain rfl : k = k0 := by omega
      have hf := HY.out q hq
      rw [hf] at HQ
      clear hq hf
      go_wp2_with fail
      refine (HQ.out _ (Ext.refl _)).mono ?_
      rintro e w2 ⟨rfl, hb2⟩
      go_wp2
      go_ret
      exact ⟨rfl, hext.trans hb2⟩

/-- What a list is when m pairs of its cells, from both ends, have changed places. -/
def RevAt (l L : List Cell) (m : Nat) : Prop := L.length = l.length ∧ ∀ q, q < l.length → L[q]? = if q < m ∨ l.length - m ≤ q then l[l.length - 1 - q]? else l[q]?
theorem rev_start (l : List Cell) : RevAt l l 0 := ⟨rfl, fun q hq => by rw [if_neg (by omega)]⟩
theorem rev_end {l L : List Cell} {m : Nat} (h : RevAt l L m) (hm : l.length ≤ 2 * m + 1) : L = l.reverse := by
  apply List.ext_getElem?
  intro q
  by_cases hq : q < l.length
  · rw [h.2 q hq, List.getElem?_reverse hq]
    split
    · rfl
    · have : q = l.length - 1 - q := by omega
      rw [← this]
  · rw [List.getElem?_eq_none (by rw [h.1]; omega), List.getElem?_eq_none (by simp; omega)]
theorem rev_step {l L : List Cell} {m : Nat} (h : RevAt l L m) (hm : 2 * m + 1 < l.length) {p q : Cell} (hp : L[m]? = some p) (hq : L[l.length - 1 - m]? = some q) : RevAt l ((L.set m q).set (l.length - 1 - m) p) (m + 1) := by
  have e1 := h.2 m (by omega)
  have e2 := h.2 (l.length - 1 - m) (by omega)
  rw [if_neg (by omega), hp] at e1
  rw [if_neg (by omega), hq] at e2
  refine ⟨by simp [h.1], fun k hk => ?_⟩
  rw [List.getElem?_set, List.getElem?_set, List.length_set, h.1]
  by_cases a : l.length - 1 - m = k
  · subst a
    rw [if_pos rfl, if_pos (by omega), if_pos (by omega), show l.length - 1 - (l.length - 1 - m) = m by omega, e1]
  · rw [if_neg a]
    by_cases b : m = k
    · subst b
      rw [if_pos rfl, if_pos (by omega), if_pos (by omega), e2]
    · rw [if_neg b, h.2 k hk]
      by_cases d : k < m ∨ l.length - m ≤ k
      · rw [if_pos d, if_pos (by omega)]
      · rw [if_neg d, if_neg (by omega)]

set_option maxRecDepth 100000 in
set_option maxHeartbeats 2000000 in
theorem revCell_any {w : World} {g c base n : Nat} {l : List Cell} (hl : l.length = n) (h1 : 1 ≤ n) (hn : n ≤ 100000) (hv : Own cellE w base 49 (.slice (some ⟨g, 0, none⟩) n c) l) :
    Calls Try.prog 74 #[.slice (some ⟨g, 0, none⟩) n c] w fun e w' => e = .returned (.tuple #[]) ∧ Own cellE w' base 49 (.slice (some ⟨g, 0, none⟩) n c) l.reverse ∧ Touch (fun k => k = g) w w' := by
  have HV := hide hv
  have HL := hide hl
  clear hv hl
  go_enter Try.func74, Try.ntmps74
  go_wp2
  go_loopw [2, 3] (fun i j wr => ∃ (m : Nat) (L : List Cell), 2 * m ≤ n ∧ i = .int .i64 m ∧ j = .int .i64 ((n : Int) - 1 - (m : Int)) ∧ RevAt l L m ∧ Own cellE wr base 49 (.slice (some ⟨g, 0, none⟩) n c) L ∧ Touch (fun k => k = g) w wr) (fun i _ _ => n - (intOf i).toNat)
  case atStart => exact ⟨0, l, by omega, rfl, by go_num, rev_start l, HV.out, Touch.refl _ _⟩
  case round =>
    obtain ⟨m, L, hmn, rfl, rfl, hrev, hown, ht⟩ := hrel
    have R := hide hrev
    have O := hide hown
    have T := hide ht
    have hLn : L.length = n := by rw [hrev.1, HL.out]
    have HLn := hide hLn
    by_cases hlt : 2 * m + 1 < n
    · obtain ⟨j, hj⟩ : ∃ j, j = n - 1 - m := ⟨_, rfl⟩
      have hji : (n : Int) - 1 - (m : Int) = (j : Int) := by omega
      obtain ⟨⟨px, py⟩, hp⟩ : ∃ p, L[m]? = some p := ⟨_, List.getElem?_eq_getElem (by omega)⟩
      obtain ⟨⟨qx, qy⟩, hq⟩ : ∃ q, L[j]? = some q := ⟨_, List.getElem?_eq_getElem (by omega)⟩
      obtain ⟨a0, a1, zg⟩ := cell_cells hown hp
      obtain ⟨b0, b1, _⟩ := cell_cells hown hq
      have h' : wr.ownsRow base 49 2 (.slice (some ⟨g, 0, none⟩) n c) L.length (L.flatMap cellE.cells) := hown
      rw [hLn] at h'
      have f0 := h'.frozenAt (m * 2)
      have f1 := h'.frozenAt (m * 2 + 1)
      have f2 := h'.frozenAt (j * 2)
      have f3 := h'.frozenAt (j * 2 + 1)
      have hst := hide (rev_step (p := (px, py)) (q := (qx, qy)) hrev (by rw [HL.out]; exact hlt) hp (by rw [HL.out, ← hj]; exact hq))
      obtain ⟨w1, hw1⟩ : ∃ w1, w1 = setRun (setRun wr g (m * 2) (cellE.cells (qx, qy))) g (j * 2) (cellE.cells (px, py)) := ⟨_, rfl⟩
      have o1 : Own cellE w1 base 49 (.slice (some ⟨g, 0, none⟩) n c) ((L.set m (qx, qy)).set j (px, py)) := by
        rw [hw1]
        exact (hown.turn (i := m) (by omega) (qx, qy)).turn (i := j) (by rw [List.length_set]; omega) (px, py)
      have t1 : Touch (fun k => k = g) wr w1 := by
        rw [hw1]
        exact (setRun_touch g _ _ _).trans (setRun_touch g _ _ _)
      have O1 := hide o1
      have T1 := hide (ht.trans t1)
      have HW1 := hide hw1
      have HJ := hide hj
      have hne : m ≠ j := by omega
      have m1 : (m : Int) < (n : Int) := by omega
      have m2 : (j : Int) < (n : Int) := by omega
      have m3 : (m : Int) < (j : Int) := by omega
      have hjb : m + 1 ≤ j := by omega
      rw [hji]
      have HLT := hide hlt
      clear hrev hown ht hLn hp hq h' hw1 o1 t1 hj hji hmn hlt
      simp only at a0 a1 b0 b1
      go_wp2
      go_region
      rw [show (((wr.setCell ⟨g, m * 2, none⟩ (.int .i64 qx)).setCell ⟨g, m * 2 + 1, none⟩ (.int .i64 qy)).setCell ⟨g, j * 2, none⟩ (.int .i64 px)).setCell ⟨g, j * 2 + 1, none⟩ (.int .i64 py) = w1 from HW1.out.symm]
      clear a0 a1 b0 b1 f0 f1 f2 f3
      go_wp2
      go_roundw
      case rel => exact ⟨m + 1, (L.set m (qx, qy)).set j (px, py), by (have := HLT.out; omega), by go_num, by (have := HJ.out; congr 1; push_cast; omega), by rw [HL.out, ← HJ.out] at hst; exact hst.out, O1.out.drew, T1.out.drew⟩
      case measure => simp [intOf]; omega
    · have hd : decide ((m : Int) < (n : Int) - 1 - (m : Int)) = false := by simp; omega
      have he := rev_end hrev (by rw [HL.out]; omega)
      subst he
      clear hrev hown ht hlt hLn HLn R
      go_wp2
      go_end0
      exact ⟨rfl, O.out, T.out⟩
end Go.Proofs.Ytkonojjillcfiaa

/- The way back, as a list of places. -/
namespace Go.Proofs.Ytkonojjillcfiaa

def nextV (G : Net) (far : Nat → Int) (v : Nat) : Option Nat := (G.adj v).find? fun u => decide (far u = far v - G.cost v)

/-- The way from a place back to the first one. -/
inductive BackP (G : Net) (far : Nat → Int) : Nat → List Nat → Prop where
  | done {v : Nat} : far v = 0 → BackP G far v [v]
  | step {v u : Nat} {l : List Nat} : 0 < far v → nextV G far v = some u → BackP G far u l → BackP G far v (v :: l)

section
variable {G : Net} {s : Nat} {far : Nat → Int}

theorem next_some (F : IsFar G s far) {v : Nat} (hv : far v < infI) (h0 : 0 < far v) : ∃ u, nextV G far v = some u := by
  have ho := F.open_ hv
  have hs : v ≠ s := fun e => by subst e; have := F.start ho; omega
  obtain ⟨u, hu, _, he⟩ := F.from_ v ho hs hv
  cases h : nextV G far v with
  | some u => exact ⟨u, rfl⟩
  | none =>
    unfold nextV at h
    rw [List.find?_eq_none] at h
    have := h u hu
    simp at this
    omega
theorem next_spec {v u : Nat} (h : nextV G far v = some u) : u ∈ G.adj v ∧ far u + G.cost v = far v := by
  unfold nextV at h
  have h1 := List.mem_of_find?_eq_some h
  have h2 := List.find?_some h
  simp at h2
  exact ⟨h1, by omega⟩
theorem next_less (F : IsFar G s far) {v u : Nat} (hv : far v < infI) (h : nextV G far v = some u) : far u < far v ∧ far u < infI ∧ G.op u = true := by
  have h2 := (next_spec h).2
  have := G.pos v (F.open_ hv)
  exact ⟨by omega, by omega, F.open_ (by omega)⟩

theorem back_ex (F : IsFar G s far) : ∀ (k : Nat) (v : Nat), far v = (k : Int) → far v < infI → ∃ l, BackP G far v l := by
  intro k
  induction k using Nat.strongRecOn with
  | _ k ih =>
    intro v hv hf
    by_cases h0 : far v = 0
    · exact ⟨_, .done h0⟩
    · have hn := F.nn v
      obtain ⟨u, hu⟩ := next_some F hf (by omega)
      have hl := next_less F hf hu
      have hnu := F.nn u
      obtain ⟨l, hl2⟩ := ih (far u).toNat (by omega) u (by omega) hl.2.1
      exact ⟨_, .step (by omega) hu hl2⟩

theorem BackP.head {v : Nat} {l : List Nat} (h : BackP G far v l) : ∃ r, l = v :: r := by cases h <;> exact ⟨_, rfl⟩
theorem BackP.all (F : IsFar G s far) {v : Nat} {l : List Nat} (h : BackP G far v l) : far v < infI → ∀ u, u ∈ l → far u ≤ far v ∧ far u < infI ∧ Way G u v (far v - far u) := by
  induction h with
  | done h0 =>
    intro hv u hu
    simp only [List.mem_singleton] at hu
    subst hu
    exact ⟨Int.le_refl _, hv, (Way.start (F.open_ hv)).cast (by omega)⟩
  | @step v u l h0 hn hb ih =>
    intro hv w hw
    rcases List.mem_cons.1 hw with rfl | hw
    · exact ⟨Int.le_refl _, hv, (Way.start (F.open_ hv)).cast (by omega)⟩
    · have hl := next_less F hv hn
      have hs := next_spec hn
      obtain ⟨i1, i2, i3⟩ := ih hl.2.1 w hw
      exact ⟨by omega, i2, (Way.step i3 hs.1 (F.open_ hv)).cast (by omega)⟩
theorem BackP.nodup (F : IsFar G s far) {v : Nat} {l : List Nat} (h : BackP G far v l) : far v < infI → l.Nodup := by
  induction h with
  | done _ => intro _; simp
  | @step v u l h0 hn hb ih =>
    intro hv
    have hl := next_less F hv hn
    refine List.nodup_cons.2 ⟨fun hm => ?_, ih hl.2.1⟩
    have := (hb.all F hl.2.1 v hm).1
    omega
theorem BackP.few (F : IsFar G s far) {v : Nat} {l : List Nat} (h : BackP G far v l) (hv : far v < infI) : l.length ≤ G.n :=
  nodup_le (h.nodup F hv) fun u hu => G.lt u (F.open_ (h.all F hv u hu).2.1)
theorem BackP.last (F : IsFar G s far) {v : Nat} {l : List Nat} (h : BackP G far v l) : far v < infI → l.getLast? = some s := by
  induction h with
  | @done v h0 =>
    intro hv
    have ho := F.open_ hv
    by_cases e : v = s
    · simp [e]
    · obtain ⟨u, _, _, he⟩ := F.from_ v ho e hv
      have := G.pos v ho
      have := F.nn u
      omega
  | @step v u l h0 hn hb ih =>
    intro hv
    obtain ⟨r, hr⟩ := hb.head
    rw [hr] at ih ⊢
    exact ih (next_less F hv hn).2.1
/-- There is one way back only. -/
theorem BackP.one {v : Nat} {l m : List Nat} (h : BackP G far v l) : BackP G far v m → l = m := by
  intro k
  induction h generalizing m with
  | done h0 => cases k with
    | done _ => rfl
    | step h1 _ _ => omega
  | step h0 hn hb ih => cases k with
    | done h1 => omega
    | step h1 hn2 hb2 =>
      rw [hn] at hn2
      cases hn2
      rw [ih hb2]
end
end Go.Proofs.Ytkonojjillcfiaa

/- A range over a function whose iterator stores into cells of its own. -/
namespace Go.Proofs.Ytkonojjillcfiaa
open Go.RowKit

/-- The iterator's word: it may lay blocks (T: those that are its own), and store into these; a round keeps these, and what the iterator reads (R). -/
def IterX {α : Type} (P : Program) (gf : Nat) (lb : Array Value) (encs : α → Array Value) (xs : List α) (R : Nat → Prop) (w : World) : Prop :=
  ∀ (l : Nat) (J : (Nat → Prop) → List α → World → Prop) (W : World), Ext w W →
    (∀ T pre W1 o, J T pre W1 → J (fun k => T k ∨ k = W1.heap.size) pre (W1.alloc o)) →
    (∀ T pre W1 W2, J T pre W1 → Ext W1 W2 → J T pre W2) →
    (∀ T pre W1 p u, J T pre W1 → T p.block → J T pre (W1.setCell p u)) →
    (∀ T pre x W1, J T pre W1 → pre ++ [x] <+: xs → YieldAt Fence.wide 3 P l (encs x) W1 fun e W' => e = .returned (.bool true) ∧ J T (pre ++ [x]) W' ∧ Touch (fun k => ¬ T k ∧ ¬ R k) W1 W') →
    J (fun _ => False) [] W →
    Calls P gf (#[.func (.yield l) #[] #[]] ++ lb) W fun e W' => (∃ v, e = .returned v) ∧ ∃ T, J T xs W'

theorem touch_putObj {W : World} (k : Nat) (o : Obj) : Touch (fun j => j = k) W (W.putObj k o) :=
  ⟨rfl, rfl, rfl, by simp, fun i _ hn => World.putObj_heap_other hn⟩

theorem wp_range_x {α : Type} {P : Program} {n : Nat} {g : Operand} {ps : Array Tmp} {assign body : Code} {Q : Exit → Act → World → Prop} {a : Act} {w : World} {gf : Nat} {lb : Array Value} {encs : α → Array Value} {xs : List α} {R : Nat → Prop}
    (hg : a.eval g = .func (.func gf) #[] lb) (eg : ∀ args w, (callFunc gf args).run P w = .ok (.enter gf args) w) (hseq : IterX P gf lb encs xs R w) (hps : ∀ x, (encs x).size = ps.size)
    (I : (Nat → Prop) → List α → World → Prop) (Ax : α → Act → World → Prop) (hR : ∀ k, R k → k < w.heap.size)
    (hO : ∀ T pre W1 W2, I T pre W1 → Touch (fun k => k = w.heap.size ∨ k = w.heap.size + 1) W1 W2 → I T pre W2)
    (hA : ∀ T pre W1 o, I T pre W1 → I (fun k => T k ∨ k = W1.heap.size) pre (W1.alloc o))
    (hE : ∀ T pre W1 W2, I T pre W1 → Ext W1 W2 → I T pre W2)
    (hS : ∀ T pre W1 p u, I T pre W1 → T p.block → I T pre (W1.setCell p u))
    (hAx : ∀ x a' W1 W2, Ax x a' W1 → Touch (fun k => k = w.heap.size ∨ k = w.heap.size + 1) W1 W2 → Ax x a' W2)
    (h0 : I (fun _ => False) [] w)
    (hassign : ∀ T pre x W1 (K : Act → World → Prop), I T pre W1 → w.heap.size + 2 ≤ W1.heap.size → (∀ a' W2, Ext W1 W2 → Ax x a' W2 → K a' W2) →
      assign.wpIn (Fence.wide.inRound (w.heap.size + 1)) 3 P (Exit.then K (fun _ _ _ => False)) { tmps := (ps.zip (encs x)).foldl (fun t (p, v) => t.setIfInBounds p v) a.tmps, defers := [] } W1)
    (hbody : ∀ T pre x a' W1, I T pre W1 → Ax x a' W1 → w.heap.size + 2 ≤ W1.heap.size → pre ++ [x] <+: xs → body.wpIn (Fence.wide.inRound (w.heap.size + 1)) 3 P
      (fun e _ W2 => e = .normal ∧ I T (pre ++ [x]) W2 ∧ Touch (fun k => ¬ T k ∧ ¬ R k ∧ k ≠ w.heap.size ∧ k ≠ w.heap.size + 1) W1 W2) a' W1)
    (hdone : ∀ T W1, I T xs W1 → W1.heap[w.heap.size]? = some (.deferred (some [])) → Q .normal { a with defers := { target := .collected w.heap.size, args := #[] } :: a.defers } W1) :
    (Code.rangeFunc g ps assign body).wpIn Fence.wide n P Q a w := by
  refine wpIn_rangeFunc ?_
  intro fn hfn
  obtain ⟨rec, hrec⟩ : ∃ rec : LoopState → Option Code → Loop, rec = fun st pe => { state := st, pending := pe, fn, tmps := a.tmps, params := ps, assign, body, defers := w.heap.size } := ⟨_, rfl⟩
  obtain ⟨W1, hW1⟩ : ∃ W1, (w.alloc (.deferred (some []))).alloc (.loop (rec .ready none)) = W1 := ⟨_, rfl⟩
  have hL1 : W1.heap[w.heap.size + 1]? = some (.loop (rec .ready none)) := by
    rw [← hW1]; have := World.alloc_heap_new (w.alloc (.deferred (some []))) (.loop (rec .ready none)); rwa [World.size_alloc] at this
  have hK1 : W1.heap[w.heap.size]? = some (.deferred (some [])) := by
    rw [← hW1]; exact (Below.heap_alloc _ _ _ (by simp)).trans (World.alloc_heap_new w _)
  have hx1 : Ext w W1 := by rw [← hW1]; exact ((Ext.refl w).alloc _).alloc _
  have hI1 : I (fun _ => False) [] W1 := hE _ _ _ _ h0 hx1
  have hz1 : w.heap.size + 2 ≤ W1.heap.size := by rw [← hW1]; simp
  refine ⟨w.heap.size + 1, [{ target := .collected w.heap.size, args := #[] }], W1, { target := .fn (.func gf) lb, args := #[.func (.yield (w.heap.size + 1)) #[] #[]] }, W1, gf,
    #[.func (.yield (w.heap.size + 1)) #[] #[]] ++ lb, W1, ?_, ?_, ?_, ?_, fun h => by simp [Fence.wide] at h, ?_⟩
  · rw [← hW1, hrec]; exact run_enterLoop_outer _ _ _ _ _
  · simp only [resolve, hg]
    simp [go_sem]
  · intro f' _; exact trivial
  · simp [invoke, go_sem, eg]
  · refine callsIn_wide.2 ((hseq (w.heap.size + 1)
      (fun T pre W => I T pre W ∧ ¬ T w.heap.size ∧ ¬ T (w.heap.size + 1) ∧ w.heap.size + 2 ≤ W.heap.size ∧ W.heap[w.heap.size + 1]? = some (.loop (rec .ready none)) ∧ W.heap[w.heap.size]? = some (.deferred (some [])))
      W1 hx1 ?_ ?_ ?_ ?_ ⟨hI1, fun x => x, fun x => x, hz1, hL1, hK1⟩).mono ?_)
    · rintro T pre W o ⟨i, t1, t2, z, hl, hk⟩
      refine ⟨hA _ _ _ _ i, fun h => h.elim t1 (fun e => by omega), fun h => h.elim t2 (fun e => by omega), by simp; omega, ?_, ?_⟩
      · exact (Below.heap_alloc _ _ _ (by omega)).trans hl
      · exact (Below.heap_alloc _ _ _ (by omega)).trans hk
    · rintro T pre W W' ⟨i, t1, t2, z, hl, hk⟩ e
      exact ⟨hE _ _ _ _ i e, t1, t2, Nat.le_trans z e.size, (e.block (by omega)).trans hl, (e.block (by omega)).trans hk⟩
    · rintro T pre W p u ⟨i, t1, t2, z, hl, hk⟩ hp
      have tt : Touch (fun k => k = p.block) W (W.setCell p u) := (Touch.refl (fun k => k = p.block) W).setCell (.inl rfl) u
      exact ⟨hS _ _ _ _ _ i hp, t1, t2, Nat.le_trans z tt.size, (tt.block (w.heap.size + 1) (by omega) (fun e => t2 (by rw [show w.heap.size + 1 = p.block from e]; exact hp))).trans hl, (tt.block w.heap.size (by omega) (fun e => t1 (by rw [show w.heap.size = p.block from e]; exact hp))).trans hk⟩
    · rintro T pre x W ⟨i, t1, t2, z, hl, hk⟩ hpre
      have hy := run_yield (P := P) (args := encs x) hl (by rw [hrec]; exact hps x)
      rw [hrec] at hy
      refine ⟨fn, _, assign, body, hy, roundIn_of_wpIn hfn (hassign T pre x W _ i z ?_)⟩
      clear hy
      intro a' W2 e2 ax
      have hl2 := (e2.block (k := w.heap.size + 1) (by omega)).trans hl
      have hk2 := (e2.block (k := w.heap.size) (by omega)).trans hk
      have i2 := hE _ _ _ _ i e2
      have z2 := Nat.le_trans z e2.size
      refine ⟨_, run_beginRound hl2 (by rw [hrec]), ?_⟩
      obtain ⟨W3, hW3⟩ : ∃ W3, W2.putObj (w.heap.size + 1) (.loop { rec .ready none with state := .busy }) = W3 := ⟨_, rfl⟩
      have t3 : Touch (fun k => k = w.heap.size + 1) W2 W3 := by rw [← hW3]; exact touch_putObj _ _
      have hl3 : W3.heap[w.heap.size + 1]? = some (.loop { rec .ready none with state := .busy }) := by rw [← hW3]; exact World.putObj_heap_same (by omega)
      have hk3 : W3.heap[w.heap.size]? = some (.deferred (some [])) := (t3.block _ (by omega) (by omega)).trans hk2
      have i3 := hO _ _ _ _ i2 (t3.mono (fun k _ h => .inr h))
      have ax3 := hAx _ _ _ _ ax (t3.mono (fun k _ h => .inr h))
      have z3 := Nat.le_trans z2 t3.size
      rw [hW3]
      refine wpIn_mono (hbody T pre x a' W3 i3 ax3 z3 hpre) ?_
      rintro e a4 W4 ⟨rfl, i4, t4⟩
      have hl4 := (t4.block (w.heap.size + 1) (by omega) (fun h => h.2.2.2 rfl)).trans hl3
      have hk4 := (t4.block w.heap.size (by omega) (fun h => h.2.2.1 rfl)).trans hk3
      have z4 := Nat.le_trans z3 t4.size
      have hr := run_endRound (P := P) none hl4
      rw [hrec] at hr
      have t5 : Touch (fun k => k = w.heap.size + 1) W4 (W4.putObj (w.heap.size + 1) (.loop (rec .ready none))) := touch_putObj _ _
      refine ⟨_, _, hr, rfl, ⟨?_, t1, t2, ?_, ?_, ?_⟩, ?_⟩
      · have := hO _ _ _ _ i4 (t5.mono (fun k _ h => .inr h))
        rw [hrec] at this
        exact this
      · simp; omega
      · rw [hrec]; exact World.putObj_heap_same (by omega)
      · exact (World.putObj_heap_other (by omega)).trans hk4
      · have t6 := ((Touch.of_ext (S := fun k => ¬ T k ∧ ¬ R k) e2).trans (t3.mono (fun k _ h => by subst h; exact ⟨t2, fun hr => by have := hR _ hr; omega⟩))).trans (t4.mono (S' := fun k => ¬ T k ∧ ¬ R k) (fun k _ h => ⟨h.1, h.2.1⟩))
        have t7 := t6.trans (t5.mono (S' := fun k => ¬ T k ∧ ¬ R k) (fun k _ h => by subst h; exact ⟨t2, fun hr => by have := hR _ hr; omega⟩))
        rw [hrec] at t7
        exact t7
    · rintro e W2 ⟨⟨v, rfl⟩, T, i, t1, t2, z, hl, hk⟩
      refine ⟨none, _, by have := run_endLoop (P := P) hl (by rw [hrec]; simp); rw [hrec] at this; exact this, ?_⟩
      exact hdone T _ (hO _ _ _ _ i ((touch_putObj (w.heap.size + 1) _).mono (fun k _ h => .inr h))) ((World.putObj_heap_other (by omega)).trans hk)

/-- .. where the loop's variable lies in a box. -/
theorem wp_range_box {α : Type} {P : Program} {n : Nat} {g : Operand} {assign body : Code} {Q : Exit → Act → World → Prop} {a : Act} {w : World} {gf : Nat} {lb : Array Value} {v : α → Value} {cs : α → Array Value} {t : TypeId} {psl bs : Nat} {xs : List α} {R : Nat → Prop}
    (hg : a.eval g = .func (.func gf) #[] lb) (eg : ∀ args w, (callFunc gf args).run P w = .ok (.enter gf args) w) (hseq : IterX P gf lb (fun x => #[v x]) xs R w)
    (I : (Nat → Prop) → List α → World → Prop) (hR : ∀ k, R k → k < w.heap.size)
    (hO : ∀ T pre W1 W2, I T pre W1 → Touch (fun k => k = w.heap.size ∨ k = w.heap.size + 1) W1 W2 → I T pre W2)
    (hA : ∀ T pre W1 o, I T pre W1 → I (fun k => T k ∨ k = W1.heap.size) pre (W1.alloc o))
    (hE : ∀ T pre W1 W2, I T pre W1 → Ext W1 W2 → I T pre W2)
    (hS : ∀ T pre W1 p u, I T pre W1 → T p.block → I T pre (W1.setCell p u))
    (h0 : I (fun _ => False) [] w)
    (hassign : ∀ x W1 (K : Act → World → Prop), (∀ Bx W2, Ext W1 W2 → W2.heap[Bx]? = some (.cells (cs x) t (0, 0)) → W1.heap.size ≤ Bx → K { tmps := (a.tmps.setIfInBounds psl (v x)).setIfInBounds bs (.pointer (some ⟨Bx, 0, none⟩)), defers := [] } W2) →
      assign.wpIn (Fence.wide.inRound (w.heap.size + 1)) 3 P (Exit.then K (fun _ _ _ => False)) { tmps := a.tmps.setIfInBounds psl (v x), defers := [] } W1)
    (hbody : ∀ T pre x Bx W1, I T pre W1 → W1.heap[Bx]? = some (.cells (cs x) t (0, 0)) → w.heap.size + 2 ≤ Bx → w.heap.size + 2 ≤ W1.heap.size → pre ++ [x] <+: xs → body.wpIn (Fence.wide.inRound (w.heap.size + 1)) 3 P
      (fun e _ W2 => e = .normal ∧ I T (pre ++ [x]) W2 ∧ Touch (fun k => ¬ T k ∧ ¬ R k ∧ k ≠ w.heap.size ∧ k ≠ w.heap.size + 1) W1 W2) { tmps := (a.tmps.setIfInBounds psl (v x)).setIfInBounds bs (.pointer (some ⟨Bx, 0, none⟩)), defers := [] } W1)
    (hdone : ∀ T W1, I T xs W1 → W1.heap[w.heap.size]? = some (.deferred (some [])) → Q .normal { a with defers := { target := .collected w.heap.size, args := #[] } :: a.defers } W1) :
    (Code.rangeFunc g #[psl] assign body).wpIn Fence.wide n P Q a w := by
  refine wp_range_x hg eg hseq (fun _ => rfl) I (fun x a' W => ∃ Bx, w.heap.size + 2 ≤ Bx ∧ W.heap[Bx]? = some (.cells (cs x) t (0, 0)) ∧ a' = { tmps := (a.tmps.setIfInBounds psl (v x)).setIfInBounds bs (.pointer (some ⟨Bx, 0, none⟩)), defers := [] })
    hR hO hA hE hS ?_ h0 ?_ ?_ hdone
  · rintro x a' W1 W2 ⟨Bx, h1, h2, h3⟩ tt
    exact ⟨Bx, h1, (tt.block Bx (Array.getElem?_eq_some_iff.1 h2).1 (fun e => by omega)).trans h2, h3⟩
  · intro T pre x W1 K i z hK
    have e : ∀ tm : Array Value, Array.foldl (fun (t : Array Value) (x : Nat × Value) => t.setIfInBounds x.1 x.2) tm (#[psl].zip #[v x]) = tm.setIfInBounds psl (v x) := fun tm => by simp
    rw [e]
    exact hassign x W1 K fun Bx W2 e hb hx => hK _ _ e ⟨Bx, by omega, hb, rfl⟩
  · rintro T pre x a' W1 i ⟨Bx, h1, h2, rfl⟩ z hp
    exact hbody T pre x Bx W1 i h2 h1 z hp
end Go.Proofs.Ytkonojjillcfiaa

/- Walk of the way back, as an iterator. -/
namespace Go.Proofs.Ytkonojjillcfiaa
open Go.RowKit

def cellV (W : Int) (v : Nat) : Cell := (vx W v, vy W v)

theorem Row16.touch {S : Nat → Prop} {w w' : World} {a : Option Addr} {l : List Int} (h : Row16 w a l) (e : Touch S w w') (hs : ∀ b off, a = some ⟨b, off, none⟩ → ¬ S b) : Row16 w' a l := fun h0 => by
  obtain ⟨b, off, ha, hb, hc⟩ := h h0
  exact ⟨b, off, ha, Nat.lt_of_lt_of_le hb e.size, fun k hk => (e.cell (p := ⟨b, off + k, none⟩) hb (hs b off ha)).trans (hc k hk)⟩

theorem next_index {G : Net} {far : Nat → Int} {v u : Nat} {W : Int} {NB : List Cell} (h : nextV G far v = some u) (hadj : G.adj v = NB.map (idxN W)) :
    ∃ k q, k < NB.length ∧ NB[k]? = some q ∧ idxN W q = u ∧ (∀ r, NB[k]? = some r → decide (far (idxN W r) = far v - G.cost v) = true) ∧ ∀ j r, j < k → NB[j]? = some r → decide (far (idxN W r) = far v - G.cost v) = false := by
  unfold nextV at h
  rw [hadj, List.find?_eq_some_iff_getElem] at h
  obtain ⟨h1, k, hk, h2, h3⟩ := h
  have hk' : k < NB.length := by simpa using hk
  have e : NB[k]? = some NB[k] := List.getElem?_eq_getElem hk'
  refine ⟨k, NB[k], hk', e, by simpa using h2, fun r hr => ?_, fun j r hj hr => ?_⟩
  · rw [e] at hr
    cases hr
    simp only [List.getElem_map] at h2
    rw [h2]
    exact h1
  · have hj' : j < NB.length := by omega
    have := h3 j hj
    rw [List.getElem?_eq_getElem hj'] at hr
    cases hr
    simpa using this

set_option maxRecDepth 100000 in
set_option maxHeartbeats 1000000 in
theorem fBack1_iter {w : World} {W H : Int} {a : Option Addr} {l : List Int} {bx byy bw bh : Int} (L : LandAt w W H a l bx byy bw bh) {c g cg base bl bf bt s t : Nat} {far : Nat → Int} {p : List Nat} {R : Nat → Prop}
    (F : IsFar (mapNet L.plain) s far) (hf : far t < infI) (B : BackP (mapNet L.plain) far t p) (ls : LandB bl W H a l.length c bx byy bw bh w) (fb : w.cell? ⟨bf, 0, none⟩ = some (.slice (some ⟨g, 0, none⟩) l.length cg)) (fa : FarAt w base g cg far l.length)
    (t0 : w.cell? ⟨bt, 0, none⟩ = some (.int .i64 (vx W t))) (t1 : w.cell? ⟨bt, 1, none⟩ = some (.int .i64 (vy W t)))
    (zl : bl < w.heap.size) (zf : bf < w.heap.size) (zt : bt < w.heap.size) (Rl : R bl) (Rf : R bf) (Rg : R g) (Ra : ∀ b off, a = some ⟨b, off, none⟩ → R b) (hR : ∀ k, R k → k < w.heap.size) :
    IterX Try.prog 99 #[.pointer (some ⟨bt, 0, none⟩), .pointer (some ⟨bf, 0, none⟩), .pointer (some ⟨bl, 0, none⟩)] (fun q : Cell => #[.agg #[.int .i64 q.1, .int .i64 q.2]]) (p.map (cellV W)) R w := by
  intro lp J W0 hx hA hE hS hY hJ0
  have HA := hide hA
  have HE := hide hE
  have HS := hide hS
  have HY := hide hY
  have HJ0 := hide hJ0
  have LP := hide L.plain
  have HL := hide (L.ext hx)
  have LB := hide (ls.ext hx zl)
  have FB := hide ((hx.cell (p := ⟨bf, 0, none⟩) zf).trans fb)
  have FA := hide (fa.ext hx)
  have zx := hx.size
  have zg := fa.lt.2
  have y0 := (hx.cell (p := ⟨bt, 0, none⟩) zt).trans t0
  have y1 := (hx.cell (p := ⟨bt, 1, none⟩) zt).trans t1
  have HAt := hide (fun (w' : World) (x y : Int) (h : 0 ≤ x ∧ x < W ∧ 0 ≤ y ∧ y < H) => fAt_any W H a l.length c bx byy bw bh x y w' L.may h.1 h.2.1 h.2.2.1 h.2.2.2)
  have HBe := hide (fun (w' : World) (hx : LandAt w' W H a l bx byy bw bh) => fBeside_any hx c)
  obtain ⟨G, hG⟩ : ∃ G, mapNet L.plain = G := ⟨_, rfl⟩
  have HG : Hid (mapNet LP.out = G) := hide hG
  rw [hG] at F B
  obtain ⟨n, hn⟩ : ∃ n, l.length = n := ⟨_, rfl⟩
  have HN := hide hn
  have HGN := hide (show G.n = n by rw [← hG]; exact hn)
  have HF := hide F
  have HB := hide B
  have HT := hide hf
  have HRs := hide hR
  rw [hn] at LB FB FA HAt HBe
  have wh := L.plain.wh
  rw [hn] at wh
  clear hA hE hS hY hJ0 L ls fb fa t0 t1 hG F B hf hn hx hR
  obtain ⟨xt, hxt⟩ : ∃ x, vx W t = x := ⟨_, rfl⟩
  obtain ⟨yt, hyt⟩ : ∃ y, vy W t = y := ⟨_, rfl⟩
  rw [hxt] at y0
  rw [hyt] at y1
  have HXT := hide hxt
  have HYT := hide hyt
  have zt0 : bt < W0.heap.size := by omega
  clear hxt hyt
  show Calls Try.prog 99 #[.func (.yield lp) #[] #[], .pointer (some ⟨bt, 0, none⟩), .pointer (some ⟨bf, 0, none⟩), .pointer (some ⟨bl, 0, none⟩)] W0 _
  go_enter Try.func99, Try.ntmps99
  go_wp2
  obtain ⟨w1, hw1⟩ : ∃ w1, w1 = W0.alloc (.cells #[.int .i64 xt, .int .i64 yt] 49) := ⟨_, rfl⟩
  have hx1 : Ext W0 w1 := by rw [hw1]; exact (by (with_reducible (repeat' (first | exact Ext.refl _ | assumption | refine Ext.drew ?_ | refine Ext.drewN ?_ _ | refine Ext.alloc ?_ _ | refine Ext.setCell ?_ ?_ _ | refine Ext.trans ?_ (by assumption)))); all_goals (first | (simp; done) | (simp; omega)))
  have J1 := hide (show J (fun k => False ∨ k = W0.heap.size) [] w1 by rw [hw1]; exact HA.out _ _ _ _ HJ0.out)
  have q0 : w1.cell? ⟨W0.heap.size, 0, none⟩ = some (.int .i64 (vx W t)) := by rw [hw1, HXT.out]; simp [go_sem]
  have q1 : w1.cell? ⟨W0.heap.size, 1, none⟩ = some (.int .i64 (vy W t)) := by rw [hw1, HYT.out]; simp [go_sem]
  have q2 : w1.frozen? ⟨W0.heap.size, 0, none⟩ = false := by rw [hw1]; simp [go_sem]
  have q3 : w1.frozen? ⟨W0.heap.size, 1, none⟩ = false := by rw [hw1]; simp [go_sem]
  have QQ := hide (show _ ∧ _ ∧ _ ∧ _ from ⟨q0, q1, q2, q3⟩)
  have HX1 := hide hx1
  have zw1 : W0.heap.size < w1.heap.size := by rw [hw1]; simp
  rw [← hw1]
  clear hw1 hx1 y0 y1 q0 q1 q2 q3 HJ0
  obtain ⟨r, hr⟩ := HB.out.head
  have HR0 := hide hr
  clear hr
  go_loopg [5] r.length (fun gk s5 wr => ∃ (T : Nat → Prop) (pre rest : List Nat) (v bc : Nat), s5 = .pointer (some ⟨bc, 0, none⟩) ∧ gk = rest.length ∧ p = pre ++ v :: rest ∧ BackP G far v (v :: rest) ∧ far v < infI ∧ J T (pre.map (cellV W)) wr ∧ T bc ∧ (∀ k, T k → W0.heap.size ≤ k) ∧ bc < wr.heap.size ∧ (wr.cell? ⟨bc, 0, none⟩ = some (.int .i64 (vx W v)) ∧ wr.cell? ⟨bc, 1, none⟩ = some (.int .i64 (vy W v)) ∧ wr.frozen? ⟨bc, 0, none⟩ = false ∧ wr.frozen? ⟨bc, 1, none⟩ = false) ∧ Touch (fun k => ¬ R k) W0 wr)
  case atStart => exact ⟨fun k => False ∨ k = W0.heap.size, [], r, t, W0.heap.size, rfl, rfl, HR0.out, by rw [← HR0.out]; exact HB.out, HT.out, J1.out, .inr rfl, fun k hk => by (have := hk.resolve_left (fun x => x)); omega, zw1, QQ.out, Touch.of_ext HX1.out⟩
  case round =>
    obtain ⟨T, pre, rest, v, bc, rfl, rfl, hp, hbp, hfv, hJ, hTb, hTW, zbc, ⟨c0, c1, c2, c3⟩, ht⟩ := hrel
    have BP := hide hbp
    have P := hide hp
    have FV := hide hfv
    have HJ := hide hJ
    have TB := hide hTb
    have TW := hide hTW
    have TT := hide ht
    have hop := HF.out.open_ hfv
    have hvn := G.lt v hop
    rw [HGN.out] at hvn
    have hvb := LP.out.v_in (v := v) (by rw [HN.out]; exact hvn)
    have hvi := idx_int (W := W) (x := vx W v) (y := vy W v) hvb.1 (by omega) hvb.2.2.1
    rw [idx_v (W := W) wh.1] at hvi
    have LBr := hide (LB.out.touch ht (by omega) (fun h => h Rl))
    have FBr := hide ((ht.cell (p := ⟨bf, 0, none⟩) (show bf < W0.heap.size by omega) (fun h => h Rf)).trans FB.out)
    have FAr := hide (FA.out.touch ht (fun h => h Rg))
    have HATr := hide (fun w' => HAt.out w' (vx W v) (vy W v) hvb)
    rw [← hvi] at HATr
    obtain ⟨X, hX⟩ : ∃ x, vx W v = x := ⟨_, rfl⟩
    obtain ⟨Y, hY⟩ : ∃ y, vy W v = y := ⟨_, rfl⟩
    have HXV := hide hX
    have HYV := hide hY
    rw [hX] at c0 HATr hvb
    rw [hY] at c1 HATr hvb
    have hzr := ht.size
    obtain ⟨fv, hfe⟩ : ∃ x, far v = x := ⟨_, rfl⟩
    have HFE := hide hfe
    have hfv0 := HF.out.nn v
    rw [hfe] at hfv0
    have FC := (FAr.out.cell hvn).1
    rw [hfe] at FC
    have hvi2 : (v : Int) < (n : Int) := by omega
    have zgr : g < wr.heap.size := by omega
    have zlr : bl < wr.heap.size := by omega
    have zfr : bf < wr.heap.size := by omega
    have hpre : pre.map (cellV W) ++ [(X, Y)] <+: p.map (cellV W) := by
      rw [hp, List.map_append, List.map_cons]
      refine ⟨rest.map (cellV W), ?_⟩
      rw [show cellV W v = (X, Y) by unfold cellV; rw [hX, hY]]
      simp
    obtain ⟨fn, tmps, assign, body, hyy, hRR⟩ := HY.out T _ (X, Y) wr.drew (HE.out _ _ _ _ hJ (Ext.refl _).drew) hpre
    have HRR := hide hRR
    obtain ⟨l0, l1, l2, l3, l4, l5, l6⟩ := LBr.out
    have FBR := FBr.out
    have hd1 : decide (0 < fv) = !decide (fv = 0) := by
      by_cases e : fv = 0
      · subst e; rfl
      · have : 0 < fv := by omega
        simp [e, this]
    clear hp hbp hfv hJ hTb hTW ht hX hY hfe hvi hRR hop hpre
    go_wp2_with fail
    go_cut [20] from 9 to 20 (fun s20 wx => s20 = .bool (!decide (fv = 0)) ∧ J T (pre.map (cellV W) ++ [(X, Y)]) wx ∧ Touch (fun k => ¬ T k ∧ ¬ R k) wr wx)
    case first =>
      refine (wpIn_wide (n := 4)).1 ?_
      gi_region_with (first
        | (refine HRR.out.mono ?_; rintro e w2 ⟨rfl, hJ2, ht2'⟩; have ht2 : Touch (fun k => ¬ T k ∧ ¬ R k) wr w2 := ((Touch.refl _ wr).drew).trans ht2'; have HJ2 := hide hJ2; have HT2 := hide ht2; have l20 := (ht2.cell (p := ⟨bl, 0, none⟩) zlr (fun h => h.2 Rl)).trans l0; have l21 := (ht2.cell (p := ⟨bl, 1, none⟩) zlr (fun h => h.2 Rl)).trans l1; have l22 := (ht2.cell (p := ⟨bl, 2, none⟩) zlr (fun h => h.2 Rl)).trans l2; have l23 := (ht2.cell (p := ⟨bl, 3, none⟩) zlr (fun h => h.2 Rl)).trans l3; have l24 := (ht2.cell (p := ⟨bl, 4, none⟩) zlr (fun h => h.2 Rl)).trans l4; have l25 := (ht2.cell (p := ⟨bl, 5, none⟩) zlr (fun h => h.2 Rl)).trans l5; have l26 := (ht2.cell (p := ⟨bl, 6, none⟩) zlr (fun h => h.2 Rl)).trans l6; have f20 := (ht2.cell (p := ⟨bf, 0, none⟩) zfr (fun h => h.2 Rf)).trans FBR; have f21 := (ht2.cell (p := ⟨g, v, none⟩) zgr (fun h => h.2 Rg)).trans FC; have c20 := (ht2.cell (p := ⟨bc, 0, none⟩) zbc (fun h => h.1 TB.out)).trans c0; have c21 := (ht2.cell (p := ⟨bc, 1, none⟩) zbc (fun h => h.1 TB.out)).trans c1; have hz2 := ht2.size; have zl2 : bl < w2.heap.size := (by omega); have zf2 : bf < w2.heap.size := (by omega); have zg2 : g < w2.heap.size := (by omega); have zb2 : bc < w2.heap.size := (by omega); clear hJ2 ht2 ht2')
        | (refine ⟨trivial, ?_⟩; gi_at_call 72; refine (callsIn_wide.2 (HATr.out _)).mono ?_; rintro e w3 ⟨rfl, hb3⟩; obtain ⟨hc3, hf3⟩ := hb3.cells; have hz3 := hb3.size; (repeat (first | rw [World.size_alloc] at hz3 | rw [World.size_drew] at hz3))))
      all_goals (go_wp2_with fail; go_meet; exact ⟨rfl, HE.out _ _ _ _ HJ2.out hb3, HT2.out.trans (Touch.of_ext hb3)⟩)
    case rest =>
      obtain ⟨rfl, hJ2, hT2⟩ := hcut
      obtain ⟨wd, rfl⟩ : ∃ wd, wd = wc := ⟨_, rfl⟩
      have J2 := hide hJ2
      have T2 := hide hT2
      have hzc := hT2.size
      clear hJ2 hd1 hyy HRR HJ
      by_cases h0 : fv = 0
      · have hr0 : rest = [] := by
          have := BP.out
          cases this with
          | done _ => rfl
          | step h1 _ _ => have := HFE.out; omega
        have hpp : p.map (cellV W) = pre.map (cellV W) ++ [(X, Y)] := by
          rw [P.out, hr0, List.map_append, List.map_cons, show cellV W v = (X, Y) by unfold cellV; rw [HXV.out, HYV.out]]
          rfl
        have hd2 : (!decide (fv = 0)) = false := by simp [h0]
        rw [hd2]
        have HPP := hide hpp
        clear hpp h0 hr0 hd2
        go_wp2_with fail
        go_end0
        exact ⟨⟨_, rfl⟩, T, by rw [HPP.out]; exact J2.out⟩
      · have hd2 : (!decide (fv = 0)) = true := by simp [h0]
        rw [hd2]
        have hop := HF.out.open_ FV.out
        have hpos : 0 < far v := by have := HFE.out; omega
        obtain ⟨u, hu⟩ := next_some HF.out FV.out hpos
        have hul := next_less HF.out FV.out hu
        have hus := (next_spec hu).2
        have hun := HF.out.nn u
        obtain ⟨rest', hbu, hre⟩ : ∃ rest', BackP G far u (u :: rest') ∧ rest = u :: rest' := by
          have := BP.out
          cases this with
          | done h => omega
          | @step _ u2 l2 h1 h2 h3 =>
            rw [hu] at h2
            cases h2
            obtain ⟨r2, hr2⟩ := h3.head
            subst hr2
            exact ⟨r2, h3, rfl⟩
        have hcb := G.pos v hop
        have hct := G.top v hop
        have tW : Touch (fun k => ¬ R k) W0 wd := TT.out.trans (T2.out.mono (fun k _ h => h.2))
        have hxl := HL.out
        have rowd := hxl.row.touch tW (fun b off e h => h (Ra b off e))
        have hlc : LandAt wd W H a l bx byy bw bh := { hxl with row := rowd }
        have HLC := hide hlc
        obtain ⟨ab, off, hae, zab, hcc⟩ := cost_cell rowd hxl.len hvb.1 hvb.2.1 hvb.2.2.1 hvb.2.2.2
        have hvi3 := idx_int (W := W) hvb.1 (by omega) hvb.2.2.1
        have hidx : idxN W (X, Y) = v := by rw [← HXV.out, ← HYV.out]; exact idx_v wh.1 v
        rw [hidx] at hvi3
        rw [show (Y * W + X).toNat = v by omega, show costI l W (X, Y) = G.cost v by rw [cost_idx, hidx, ← HG.out]; rfl] at hcc
        obtain ⟨cv, hcv⟩ : ∃ x, G.cost v = x := ⟨_, rfl⟩
        have HCV := hide hcv
        rw [hcv] at hcc hcb hct hus
        have k9 : IntKind.u64.wrap cv = cv := by rw [IntKind.wrap_u64]; omega
        have hfvi : fv < 18446744073709551615 := by have := FV.out; rw [HFE.out] at this; exact this
        have k8 : IntKind.u64.wrap (fv - cv) = fv - cv := by rw [IntKind.wrap_u64]; (have := HFE.out; omega)
        have e0 := (T2.out.cell (p := ⟨bl, 0, none⟩) zlr (fun h => h.2 Rl)).trans l0
        have e1 := (T2.out.cell (p := ⟨bl, 1, none⟩) zlr (fun h => h.2 Rl)).trans l1
        have e2 := (T2.out.cell (p := ⟨bl, 2, none⟩) zlr (fun h => h.2 Rl)).trans l2
        have e3 := (T2.out.cell (p := ⟨bl, 3, none⟩) zlr (fun h => h.2 Rl)).trans l3
        have e4 := (T2.out.cell (p := ⟨bl, 4, none⟩) zlr (fun h => h.2 Rl)).trans l4
        have e5 := (T2.out.cell (p := ⟨bl, 5, none⟩) zlr (fun h => h.2 Rl)).trans l5
        have e6 := (T2.out.cell (p := ⟨bl, 6, none⟩) zlr (fun h => h.2 Rl)).trans l6
        have e7 := (T2.out.cell (p := ⟨bf, 0, none⟩) zfr (fun h => h.2 Rf)).trans FBR
        have e8 := (T2.out.cell (p := ⟨g, v, none⟩) zgr (fun h => h.2 Rg)).trans FC
        have e9 := (T2.out.cell (p := ⟨bc, 0, none⟩) zbc (fun h => h.1 TB.out)).trans c0
        have e10 := (T2.out.cell (p := ⟨bc, 1, none⟩) zbc (fun h => h.1 TB.out)).trans c1
        have e11 := (T2.out.frozen (p := ⟨bc, 0, none⟩) zbc (fun h => h.1 TB.out)).trans c2
        have e12 := (T2.out.frozen (p := ⟨bc, 1, none⟩) zbc (fun h => h.1 TB.out)).trans c3
        have FRZ := hide (show _ ∧ _ from ⟨e11, e12⟩)
        have z1 : bl < wd.heap.size := by omega
        have z2 : bf < wd.heap.size := by omega
        have z3 : g < wd.heap.size := by omega
        have z4 : bc < wd.heap.size := by omega
        have TW2 := hide tW
        have HU := hide hu
        have HUL := hide hul
        have HUS := hide hus
        have HBU := hide hbu
        have HRE := hide hre
        have HID := hide hidx
        subst hae
        clear hu hul hus hbu hre hun hpos hop tW hxl rowd hlc hvi3 hidx hcv l0 l1 l2 l3 l4 l5 l6 FBR FC c0 c1 c2 c3 e11 e12 h0 hd2 LBr FBr FAr
        go_wp2_with fail
        go_cut [6] from 21 to 36 (fun s6 wx => ∃ bq : Nat, s6 = .pointer (some ⟨bq, 0, none⟩) ∧ wx.cell? ⟨bq, 0, none⟩ = some (.int .u64 (fv - cv)) ∧ wd.heap.size ≤ bq ∧ bq < wx.heap.size ∧ Ext wd wx)
        case first =>
          go_region_held3 (fun W => (∀ b o, b < wd.heap.size → W.cell? ⟨b, o, none⟩ = wd.cell? ⟨b, o, none⟩) ∧ Ext wd W) (first | with_reducible exact pr_start _ | exact pr_of (by (with_reducible (repeat' (first | exact Ext.refl _ | assumption | refine Ext.drew ?_ | refine Ext.drewN ?_ _ | refine Ext.alloc ?_ _ | refine Ext.setCell ?_ ?_ _ | refine Ext.trans ?_ (by assumption)))); all_goals (first | (simp; done) | (simp; omega))))
            (first | (go_at_call 72; refine (HATr.out _).mono ?_; rintro e w3 ⟨rfl, hb3⟩; obtain ⟨hc3, hf3⟩ := hb3.cells; have hz3 := hb3.size; (repeat (first | rw [World.size_alloc] at hz3 | rw [World.size_drew] at hz3)); (try have zA3 := Nat.lt_of_succ_le hz3); (try have zB3 := Nat.lt_of_succ_le (Nat.le_of_succ_le hz3)); (try have zC3 : wd.heap.size < w3.heap.size := (by omega)); (try have zD3 : wd.heap.size + 1 < w3.heap.size := (by omega)); (try have zE3 : w3.heap.size ≠ wd.heap.size := (by omega)); (try have zF3 : wd.heap.size ≠ w3.heap.size := (by omega)); (try have zG3 : wd.heap.size < w3.heap.size + 1 := (by omega))))
          all_goals (rename_i hS; have hSx := hide hS.2; clear hS; go_wp2_with fail; go_meet; refine ⟨_, rfl, ?_, ?_, ?_, hSx.out⟩)
          all_goals (first | (simp [go_sem, *]; done) | (simp; done) | (simp; omega) | omega)
        case rest =>
          obtain ⟨bq, rfl, hq, hbq1, hbq2, hxw⟩ := hcut
          have HX3 := hide hxw
          have z0 := hxw.size
          have s0 := (hxw.cell (p := ⟨bl, 0, none⟩) z1).trans e0
          have s1 := (hxw.cell (p := ⟨bl, 1, none⟩) z1).trans e1
          have s2 := (hxw.cell (p := ⟨bl, 2, none⟩) z1).trans e2
          have s3 := (hxw.cell (p := ⟨bl, 3, none⟩) z1).trans e3
          have s4 := (hxw.cell (p := ⟨bl, 4, none⟩) z1).trans e4
          have s5 := (hxw.cell (p := ⟨bl, 5, none⟩) z1).trans e5
          have s6 := (hxw.cell (p := ⟨bl, 6, none⟩) z1).trans e6
          have s9 := (hxw.cell (p := ⟨bc, 0, none⟩) z4).trans e9
          have s10 := (hxw.cell (p := ⟨bc, 1, none⟩) z4).trans e10
          have E7 := hide e7
          have E9 := hide e9
          have E10 := hide e10
          have HQ := hide hq
          clear hxw e0 e1 e2 e3 e4 e5 e6 e7 e8 e9 e10 hcc hq
          go_wp2_with fail
          refine (HBe.out _ ((HLC.out.ext HX3.out).ext (by (with_reducible (repeat' (first | exact Ext.refl _ | assumption | refine Ext.drew ?_ | refine Ext.drewN ?_ _ | refine Ext.alloc ?_ _ | refine Ext.setCell ?_ ?_ _ | refine Ext.trans ?_ (by assumption)))); all_goals (first | (simp; done) | (simp; omega)))) X Y (by omega) (by omega) (by omega) (by omega)).mono ?_
          rintro e w4 ⟨v9, rfl, hx4, hv9⟩
          have hx34 : Ext wd w4 := HX3.out.trans (by (with_reducible (repeat' (first | exact Ext.refl _ | assumption | refine Ext.drew ?_ | refine Ext.drewN ?_ _ | refine Ext.alloc ?_ _ | refine Ext.setCell ?_ ?_ _ | refine Ext.trans ?_ (by assumption)))); all_goals (first | (simp; done) | (simp; omega)))
          have HX4 := hide hx34
          obtain ⟨NB, hNB⟩ : ∃ NB, nbC (openB l W bx byy bw bh) X Y 4 = NB := ⟨_, rfl⟩
          have hnb4 := nbC_len (openB l W bx byy bw bh) X Y 4
          have hadj : G.adj v = NB.map (idxN W) := by
            rw [← hNB, ← HG.out, ← HXV.out, ← HYV.out]
            rfl
          obtain ⟨k0, ⟨qx, qy⟩, hk0, hqk, hqu, hyes, hno⟩ := next_index HU.out hadj
          have hin : ∀ q, q ∈ NB → 0 ≤ q.1 ∧ q.1 < W ∧ 0 ≤ q.2 ∧ q.2 < H := fun q hq => by
            rw [← hNB] at hq
            obtain ⟨d, _, ho, he⟩ := mem_nbC.1 hq
            rw [he]
            exact LP.out.in_ (open_has ho).1
          have hqin := hin _ (List.mem_of_getElem? hqk)
          rw [hNB] at hv9 hnb4
          obtain ⟨m, hm⟩ : ∃ m, NB.length = m := ⟨_, rfl⟩
          rw [hm] at hk0 hnb4
          obtain ⟨sb, c9, rfl⟩ : ∃ sb c9, v9 = .slice (some ⟨sb, 0, none⟩) m c9 := by
            rcases hv9.2 with ⟨_, hz⟩ | ⟨g', cap, cur, hv', _⟩
            · omega
            · exact ⟨g', cap, by rw [hv', hm]⟩
          obtain ⟨n0, n1, zsb⟩ := cell_cells hv9 hqk
          have hp2 : ∀ w', Ext w4 w' → ∀ q, q ∈ NB → Calls Try.prog 101 (#[.agg #[.int .i64 q.1, .int .i64 q.2]] ++ #[.pointer (some ⟨bf, 0, none⟩), .pointer (some ⟨bl, 0, none⟩), .pointer (some ⟨bq, 0, none⟩)]) w' fun e w2 => e = .returned (.bool (decide (far (idxN W q) = far v - G.cost v))) ∧ Ext w' w2 := fun w' hw q hq => by
            have hi := hin q hq
            have hx5 := hx34.trans hw
            have tx : Touch (fun k => ¬ R k) W0 w' := TW2.out.trans (Touch.of_ext hx5)
            have hs4 := hx34.size
            have hsw := hw.size
            have hsx := (show Ext wc w4 from (by (with_reducible (repeat' (first | exact Ext.refl _ | assumption | refine Ext.drew ?_ | refine Ext.drewN ?_ _ | refine Ext.alloc ?_ _ | refine Ext.setCell ?_ ?_ _ | refine Ext.trans ?_ (by assumption)))); all_goals (first | (simp; done) | (simp; omega)))).size
            refine fBack11_any q.1 q.2 _ (LB.out.touch tx (by omega) (fun h => h Rl)) LP.out.may (by rw [← HN.out]; exact LP.out.len) ?_ ?_ (FA.out.touch tx (fun h => h Rg)) hi.1 hi.2.1 hi.2.2.1 hi.2.2.2 (by omega) (by omega) (by omega)
            · exact (hx5.cell (p := ⟨bf, 0, none⟩) z2).trans E7.out
            · rw [((show Ext wc w4 from (by (with_reducible (repeat' (first | exact Ext.refl _ | assumption | refine Ext.drew ?_ | refine Ext.drewN ?_ _ | refine Ext.alloc ?_ _ | refine Ext.setCell ?_ ?_ _ | refine Ext.trans ?_ (by assumption)))); all_goals (first | (simp; done) | (simp; omega)))).trans hw).cell (p := ⟨bq, 0, none⟩) hbq2, HFE.out, HCV.out]
              exact HQ.out
          have HI := hide (idxCell_any hm (by omega) hv9 hp2 (enters_of Try.func101 (by kernel_rfl) rfl) hk0 hyes hno)
          have HK0 := hide hk0
          have HQN := hide hqin
          have HQU := hide hqu
          have hs4 := hx34.size
          have hk0i : (k0 : Int) < (m : Int) := by omega
          have N0 := hide n0
          have N1 := hide n1
          have zw4 : wc.heap.size ≤ w4.heap.size := (show Ext wc w4 from (by (with_reducible (repeat' (first | exact Ext.refl _ | assumption | refine Ext.drew ?_ | refine Ext.drewN ?_ _ | refine Ext.alloc ?_ _ | refine Ext.setCell ?_ ?_ _ | refine Ext.trans ?_ (by assumption)))); all_goals (first | (simp; done) | (simp; omega)))).size
          clear hp2 hyes hno hin hadj hqk hqu hqin hm hv9 hNB hx34 n0 n1
          go_wp2_with fail
          refine HI.out.mono ?_
          rintro e w5 ⟨rfl, hx5⟩
          have n0 := (hx5.cell (p := ⟨sb, k0 * 2, none⟩) zsb).trans N0.out
          have n1 := (hx5.cell (p := ⟨sb, k0 * 2 + 1, none⟩) zsb).trans N1.out
          have hz5 := hx5.size
          have HX5 := hide (HX4.out.trans hx5)
          have b0 := ((HX5.out.cells).2 bc 0 z4).trans FRZ.out.1
          have b1 := ((HX5.out.cells).2 bc 1 z4).trans FRZ.out.2
          have t9 := (HX5.out.cell (p := ⟨bc, 0, none⟩) z4).trans E9.out
          have t10 := (HX5.out.cell (p := ⟨bc, 1, none⟩) z4).trans E10.out
          clear s9 s10 HI hx5
          go_wp2_with fail
          obtain ⟨w6, hw6⟩ : ∃ w6, w6 = (w5.setCell ⟨bc, 0, none⟩ (.int .i64 qx)).setCell ⟨bc, 1, none⟩ (.int .i64 qy) := ⟨_, rfl⟩
          have j5 := HE.out _ _ _ _ J2.out HX5.out
          have j6 : J T (pre.map (cellV W) ++ [(X, Y)]) w6 := by
            rw [hw6]
            exact HS.out _ _ _ _ _ (HS.out _ _ _ ⟨bc, 0, none⟩ _ j5 TB.out) TB.out
          have t6 : Touch (fun k => k = bc) w5 w6 := by
            rw [hw6]
            exact ((Touch.refl (fun k => k = bc) w5).setCell (p := ⟨bc, 0, none⟩) (.inl rfl) _).setCell (p := ⟨bc, 1, none⟩) (.inl rfl) _
          have z6 : w6.heap.size = w5.heap.size := by rw [hw6]; simp
          have hWbc := TW.out bc TB.out
          rw [← hw6, ← z6]
          have hqb := HQN.out
          have ux : vx W u = qx := by rw [← HQU.out]; exact vx_idx hqb.1 hqb.2.1 hqb.2.2.1
          have uy : vy W u = qy := by rw [← HQU.out]; exact vy_idx hqb.1 hqb.2.1 hqb.2.2.1
          have hs5 := HX5.out.size
          have hsW := TW2.out.size
          go_roundg rest'.length
          case measure => rw [HRE.out]; simp
          case rel =>
            refine ⟨fun k => T k ∨ k = w6.heap.size, pre ++ [v], rest', u, w6.heap.size, rfl, rfl, by rw [P.out, HRE.out]; simp, HBU.out, HUL.out.2.1, ?_, .inr rfl, ?_, by simp, ?_, ?_⟩
            · rw [List.map_append, List.map_cons, List.map_nil, show cellV W v = (X, Y) by unfold cellV; rw [HXV.out, HYV.out]]
              exact HA.out _ _ _ _ j6
            · intro k hk
              rcases hk with hk | hk
              · exact TW.out k hk
              · omega
            · rw [ux, uy]
              exact ⟨by simp [go_sem], by simp [go_sem], by simp [go_sem], by simp [go_sem]⟩
            · refine Touch.alloc ((TW2.out.trans (Touch.of_ext HX5.out)).trans (t6.mono (fun k _ h hr => ?_))) _
              have := HRs.out k hr
              omega
end Go.Proofs.Ytkonojjillcfiaa

/- A region that draws its order, walked along one order: what may be taken first is taken first, what acts is carried out alone. -/
namespace Go.Proofs.Ytkonojjillcfiaa
open Go.RowKit

/-- The order is one that a walk may take: (i, true) is free, (i, false) comes up alone. -/
def okOrder (md : Region.Mode) (ops : Array Oper) : List (Nat × Bool) → Array Bool → Bool
  | [], listed => (Region.ready md ops listed).isEmpty
  | (i, true) :: r, listed => (Region.ready md ops listed).contains i && Region.free md ops listed i && okOrder md ops r (listed.setIfInBounds i true)
  | (i, false) :: r, listed => Region.ready md ops listed == [i] && okOrder md ops r (listed.setIfInBounds i true)

/-- The rest of a region in a given order. -/
def SeqH (P : Program) (ops : Array Oper) (Q : Exit → Act → World → Prop) (S : World → Prop) : List (Nat × Bool) → Act → World → Prop
  | [], a, w => Q .normal a w
  | (i, true) :: r, a, w => ∃ oi v, ops[i]? = some oi ∧ YieldsIf P ops S oi v a ∧ SeqH P ops Q S r (a.put oi.dst v) w
  | (i, false) :: r, a, w => ∃ oi, ops[i]? = some oi ∧ ∀ K' : Act → World → Prop, Shut (∀ a w, S w → (S w → SeqH P ops Q S r a w) → K' a w) → if Region.wanted oi (yielded ops a.tmps) = true then Oper.wp P oi a w K' Q else K' (a.put oi.dst undef) w

section
variable {P : Program} {ops : Array Oper} {Q : Exit → Act → World → Prop} {S : World → Prop}

theorem SeqH.free {i : Nat} {r : List (Nat × Bool)} {oi : Oper} {v : Value} {a : Act} {w : World} (hi : ops[i]? = some oi) (hy : YieldsIf P ops S oi v a) (h : SeqH P ops Q S r (a.put oi.dst v) w) : SeqH P ops Q S ((i, true) :: r) a w := ⟨oi, v, hi, hy, h⟩
theorem SeqH.step {i : Nat} {r : List (Nat × Bool)} {oi : Oper} {a : Act} {w : World} (hi : ops[i]? = some oi) (h : ∀ K' : Act → World → Prop, Shut (∀ a w, S w → (S w → SeqH P ops Q S r a w) → K' a w) → if Region.wanted oi (yielded ops a.tmps) = true then Oper.wp P oi a w K' Q else K' (a.put oi.dst undef) w) : SeqH P ops Q S ((i, false) :: r) a w := ⟨oi, hi, h⟩
theorem SeqH.done {a : Act} {w : World} (h : Q .normal a w) : SeqH P ops Q S [] a w := h

theorem SeqH.any {md : Region.Mode} (hs : Region.noSelect ops = true) (hQ : ∀ c a d v w, Q (.panic c) (a.put d v) w → Q (.panic c) a w) : ∀ (r : List (Nat × Bool)) (fuel : Nat) (listed : Array Bool) (a : Act) (w : World), okOrder md ops r listed = true → r.length ≤ fuel → S w → SeqH P ops Q S r a w → wpAnyH P md ops Q S fuel listed a w
  | [], fuel, listed, a, w, hk, _, _, h => wpAnyH_done (by unfold okOrder at hk; exact List.isEmpty_iff.1 hk) h fuel
  | (i, true) :: r, 0, _, _, _, _, hf, _, _ => absurd hf (by simp)
  | (i, false) :: r, 0, _, _, _, _, hf, _, _ => absurd hf (by simp)
  | (i, true) :: r, fuel + 1, listed, a, w, hk, hf, hS, h => by
    unfold okOrder at hk
    simp only [Bool.and_eq_true] at hk
    obtain ⟨oi, v, hi, hy, h⟩ := h
    exact wpAnyH_take hi hs hk.1.2 hk.1.1 (fun c a w => hQ c a _ _ w) hy hS (SeqH.any hs hQ r fuel _ _ w hk.2 (by simpa using hf) hS h)
  | (i, false) :: r, fuel + 1, listed, a, w, hk, hf, hS, h => by
    unfold okOrder at hk
    simp only [Bool.and_eq_true, beq_iff_eq] at hk
    obtain ⟨oi, hi, h⟩ := h
    refine wpAnyH_ready hk.1 (by simp) (AllReadyH.cons hi (fun K hK => ?_) AllReadyH.nil)
    exact h K (fun a' w' hS' hseq => hK.out a' w' hS' (fun _ => SeqH.any hs hQ r fuel _ a' w' hk.2 (by simpa using hf) hS' (hseq hS')))

/-- The beginning. -/
theorem seqH_start {id : Nat} {a : Act} {w : World} (r : List (Nat × Bool)) (hm : P.follows .mixedOrders = true) (hs : Region.noSelect ops = true) (hk : okOrder .any ops r (Array.replicate ops.size false) = true) (hl : (r.length ≤ ops.size : Prop))
    (hQ : ∀ c a d v w, Q (.panic c) (a.put d v) w → Q (.panic c) a w) (hS : S w.drew) (h : S w.drew → SeqH P ops Q S r a w.drew) : (Code.region id ops true).wp P Q a w :=
  wp_region_held_drew hm hS (fun hS' => SeqH.any hs hQ r _ _ _ _ hk hl hS' (h hS'))
end
end Go.Proofs.Ytkonojjillcfiaa

/- Blocks that are known whole: how they are read, and that a box just laid is one. -/
namespace Go.Proofs.Ytkonojjillcfiaa
open Go.RowKit

theorem Blk.at {w : World} {g : Nat} {t : TypeId} {cs : Array Value} (h : Blk w g t cs) (i : Nat) {v : Value} (hv : cs[i]? = some v) : w.cell? ⟨g, i, none⟩ = some v := (h.cell i).trans hv
theorem Blk.new_ {w : World} {g : Nat} {t : TypeId} {cs : Array Value} (hg : g = w.heap.size) : Blk (w.alloc (.cells cs t)) g t cs := by subst hg; exact Blk.new w t cs
theorem Blk.over {w : World} {g : Nat} {t : TypeId} {cs : Array Value} {o : Obj} (h : Blk w g t cs) : Blk (w.alloc o) g t cs := h.ext ((Ext.refl w).alloc o)
theorem Blk.drew {w : World} {g : Nat} {t : TypeId} {cs : Array Value} (h : Blk w g t cs) : Blk w.drew g t cs := h
end Go.Proofs.Ytkonojjillcfiaa
