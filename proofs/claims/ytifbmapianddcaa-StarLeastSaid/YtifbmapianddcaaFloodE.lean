/- Walks of look, Within, From. -/
import Derived.Test.YtifbmapianddcaaFloodD
set_option linter.all false
set_option linter.unusedVariables false
set_option linter.unusedSimpArgs false
namespace Go.Proofs.Ytifbmapianddcaa
open Go.RowKit

/-- What is wrong with a field, a box and a cell. -/
def lookE (W H : Int) (n : Nat) (bx byy bw bh x y : Int) : Int := if checkE W H n = 0 then (if fitsR W H bx byy bw bh = true ∧ hasB bx byy bw bh x y = true then 0 else 10) else checkE W H n

theorem lookE_ok {W H : Int} {n : Nat} {bx byy bw bh x y : Int} : lookE W H n bx byy bw bh x y = 0 ↔ mayB W H = true ∧ (n : Int) = W * H ∧ fitsR W H bx byy bw bh = true ∧ hasB bx byy bw bh x y = true := by
  unfold lookE
  split
  · next h =>
    rw [checkE_ok] at h
    split
    · next h2 => simp [h, h2]
    · next h2 => simp only [h.1, h.2, true_and]; exact ⟨fun e => absurd e (by decide), fun e => absurd e h2⟩
  · next h =>
    constructor
    · intro e; exact absurd e h
    · intro e; exact absurd (checkE_ok.2 ⟨e.1, e.2.1⟩) h

set_option maxRecDepth 100000 in
theorem fLook_bad {w : World} (W H : Int) (a : Option Addr) (n c : Nat) (bx byy bw bh x y : Int) (he : lookE W H n bx byy bw bh x y ≠ 0) :
    Calls Try.prog 108 #[.agg #[.int .i64 W, .int .i64 H, .slice a n c], .agg #[.int .i64 bx, .int .i64 byy, .int .i64 bw, .int .i64 bh], .agg #[.int .i64 x, .int .i64 y]] w fun e w' => e = .returned (.tuple #[.agg #[.int .i64 0, .int .i64 0, .slice none 0 0, .int .i64 0, .int .i64 0, .int .i64 0, .int .i64 0], .int .i64 (lookE W H n bx byy bw bh x y)]) ∧ Ext w w' := by
  have HC := hide (fun w' => gCheck_any W H a n c w')
  have HF := hide (fun w' => gFits_any W H bx byy bw bh w')
  have HH := hide (fun w' => gHas_any bx byy bw bh x y w')
  by_cases hc : checkE W H n = 0
  · have hm := (checkE_ok.1 hc).1
    rw [hc] at HC
    rw [fitsG_eq hm] at HF
    have e0 : lookE W H n bx byy bw bh x y = 10 := by
      unfold lookE at he ⊢
      rw [if_pos hc] at he ⊢
      split at he
      · exact absurd rfl he
      · next h => rw [if_neg h]
    rw [e0]
    cases hf : fitsR W H bx byy bw bh
    · rw [hf] at HF
      clear he e0 hc hm hf
      go_enter Try.func108, Try.ntmps108
      go_wp2_with (first
        | (go_at_call 65; refine (HC.out _).mono ?_; rintro e w1 ⟨rfl, hb1⟩; obtain ⟨hc1, hf1⟩ := hb1.cells; have hz1 := hb1.size; (repeat (first | rw [World.size_alloc] at hz1 | rw [World.size_drew] at hz1)); have z1_0 : w.heap.size < w1.heap.size := (by omega); have z1_1 : w.heap.size + 1 < w1.heap.size := (by omega); have z1_2 : w.heap.size + 2 < w1.heap.size := (by omega); have z1_3 : w.heap.size + 3 < w1.heap.size := (by omega))
        | (go_at_call 147; refine (HF.out _).mono ?_; rintro e w2 ⟨rfl, hb2⟩; obtain ⟨hc2, hf2⟩ := hb2.cells; have hz2 := hb2.size; (repeat (first | rw [World.size_alloc] at hz2 | rw [World.size_drew] at hz2)); have z2_0 : w.heap.size < w2.heap.size := (by omega); have z2_1 : w.heap.size + 1 < w2.heap.size := (by omega); have z2_2 : w.heap.size + 2 < w2.heap.size := (by omega); have z2_3 : w.heap.size + 3 < w2.heap.size := (by omega))
        | (go_at_call 148; refine (HH.out _).mono ?_; rintro e w3 ⟨rfl, hb3⟩; obtain ⟨hc3, hf3⟩ := hb3.cells; have hz3 := hb3.size; (repeat (first | rw [World.size_alloc] at hz3 | rw [World.size_drew] at hz3)); have z3_0 : w.heap.size < w3.heap.size := (by omega); have z3_1 : w.heap.size + 1 < w3.heap.size := (by omega); have z3_2 : w.heap.size + 2 < w3.heap.size := (by omega); have z3_3 : w.heap.size + 3 < w3.heap.size := (by omega)))
      exact bodyPost_ret (v := .tuple #[.agg #[.int .i64 0, .int .i64 0, .slice none 0 0, .int .i64 0, .int .i64 0, .int .i64 0, .int .i64 0], .int .i64 10]) (by simp [results, Try.results108, go_sem, *]) rfl ⟨rfl, (by (with_reducible (repeat' (first | exact Ext.refl _ | assumption | refine Ext.drew ?_ | refine Ext.drewN ?_ _ | refine Ext.alloc ?_ _ | refine Ext.setCell ?_ ?_ _ | refine Ext.trans ?_ (by assumption)))); all_goals (first | (simp; done) | (simp; omega)))⟩
    · rw [hf] at HF
      rw [hasG_eq hm hf] at HH
      have hh : hasB bx byy bw bh x y = false := by
        cases h : hasB bx byy bw bh x y
        · rfl
        · exact absurd (lookE_ok.2 ⟨hm, (checkE_ok.1 hc).2, hf, h⟩) he
      rw [hh] at HH
      clear he e0 hc hm hf hh
      go_enter Try.func108, Try.ntmps108
      go_wp2_with (first
        | (go_at_call 65; refine (HC.out _).mono ?_; rintro e w1 ⟨rfl, hb1⟩; obtain ⟨hc1, hf1⟩ := hb1.cells; have hz1 := hb1.size; (repeat (first | rw [World.size_alloc] at hz1 | rw [World.size_drew] at hz1)); have z1_0 : w.heap.size < w1.heap.size := (by omega); have z1_1 : w.heap.size + 1 < w1.heap.size := (by omega); have z1_2 : w.heap.size + 2 < w1.heap.size := (by omega); have z1_3 : w.heap.size + 3 < w1.heap.size := (by omega))
        | (go_at_call 147; refine (HF.out _).mono ?_; rintro e w2 ⟨rfl, hb2⟩; obtain ⟨hc2, hf2⟩ := hb2.cells; have hz2 := hb2.size; (repeat (first | rw [World.size_alloc] at hz2 | rw [World.size_drew] at hz2)); have z2_0 : w.heap.size < w2.heap.size := (by omega); have z2_1 : w.heap.size + 1 < w2.heap.size := (by omega); have z2_2 : w.heap.size + 2 < w2.heap.size := (by omega); have z2_3 : w.heap.size + 3 < w2.heap.size := (by omega))
        | (go_at_call 148; refine (HH.out _).mono ?_; rintro e w3 ⟨rfl, hb3⟩; obtain ⟨hc3, hf3⟩ := hb3.cells; have hz3 := hb3.size; (repeat (first | rw [World.size_alloc] at hz3 | rw [World.size_drew] at hz3)); have z3_0 : w.heap.size < w3.heap.size := (by omega); have z3_1 : w.heap.size + 1 < w3.heap.size := (by omega); have z3_2 : w.heap.size + 2 < w3.heap.size := (by omega); have z3_3 : w.heap.size + 3 < w3.heap.size := (by omega)))
      exact bodyPost_ret (v := .tuple #[.agg #[.int .i64 0, .int .i64 0, .slice none 0 0, .int .i64 0, .int .i64 0, .int .i64 0, .int .i64 0], .int .i64 10]) (by simp [results, Try.results108, go_sem, *]) rfl ⟨rfl, (by (with_reducible (repeat' (first | exact Ext.refl _ | assumption | refine Ext.drew ?_ | refine Ext.drewN ?_ _ | refine Ext.alloc ?_ _ | refine Ext.setCell ?_ ?_ _ | refine Ext.trans ?_ (by assumption)))); all_goals (first | (simp; done) | (simp; omega)))⟩
  · have e0 : lookE W H n bx byy bw bh x y = checkE W H n := by unfold lookE; rw [if_neg hc]
    rw [e0]
    clear e0 he
    generalize checkE W H n = ce at *
    have hce : (ce != 0) = true := by simpa using hc
    clear hc
    go_enter Try.func108, Try.ntmps108
    go_wp2_with (first
        | (go_at_call 65; refine (HC.out _).mono ?_; rintro e w1 ⟨rfl, hb1⟩; obtain ⟨hc1, hf1⟩ := hb1.cells; have hz1 := hb1.size; (repeat (first | rw [World.size_alloc] at hz1 | rw [World.size_drew] at hz1)); have z1_0 : w.heap.size < w1.heap.size := (by omega); have z1_1 : w.heap.size + 1 < w1.heap.size := (by omega); have z1_2 : w.heap.size + 2 < w1.heap.size := (by omega); have z1_3 : w.heap.size + 3 < w1.heap.size := (by omega))
        | (go_at_call 147; refine (HF.out _).mono ?_; rintro e w2 ⟨rfl, hb2⟩; obtain ⟨hc2, hf2⟩ := hb2.cells; have hz2 := hb2.size; (repeat (first | rw [World.size_alloc] at hz2 | rw [World.size_drew] at hz2)); have z2_0 : w.heap.size < w2.heap.size := (by omega); have z2_1 : w.heap.size + 1 < w2.heap.size := (by omega); have z2_2 : w.heap.size + 2 < w2.heap.size := (by omega); have z2_3 : w.heap.size + 3 < w2.heap.size := (by omega))
        | (go_at_call 148; refine (HH.out _).mono ?_; rintro e w3 ⟨rfl, hb3⟩; obtain ⟨hc3, hf3⟩ := hb3.cells; have hz3 := hb3.size; (repeat (first | rw [World.size_alloc] at hz3 | rw [World.size_drew] at hz3)); have z3_0 : w.heap.size < w3.heap.size := (by omega); have z3_1 : w.heap.size + 1 < w3.heap.size := (by omega); have z3_2 : w.heap.size + 2 < w3.heap.size := (by omega); have z3_3 : w.heap.size + 3 < w3.heap.size := (by omega)))
    exact bodyPost_ret (v := .tuple #[.agg #[.int .i64 0, .int .i64 0, .slice none 0 0, .int .i64 0, .int .i64 0, .int .i64 0, .int .i64 0], .int .i64 ce]) (by simp [results, Try.results108, go_sem, *]) rfl ⟨rfl, (by (with_reducible (repeat' (first | exact Ext.refl _ | assumption | refine Ext.drew ?_ | refine Ext.drewN ?_ _ | refine Ext.alloc ?_ _ | refine Ext.setCell ?_ ?_ _ | refine Ext.trans ?_ (by assumption)))); all_goals (first | (simp; done) | (simp; omega)))⟩

set_option maxRecDepth 100000 in
theorem fLook_ok {w : World} (W H : Int) (a : Option Addr) (n c : Nat) (bx byy bw bh x y : Int) (he : lookE W H n bx byy bw bh x y = 0) :
    Calls Try.prog 108 #[.agg #[.int .i64 W, .int .i64 H, .slice a n c], .agg #[.int .i64 bx, .int .i64 byy, .int .i64 bw, .int .i64 bh], .agg #[.int .i64 x, .int .i64 y]] w fun e w' => e = .returned (.tuple #[.agg #[.int .i64 W, .int .i64 H, .slice a n c, .int .i64 bx, .int .i64 byy, .int .i64 bw, .int .i64 bh], .int .i64 0]) ∧ Ext w w' := by
  have HC := hide (fun w' => gCheck_any W H a n c w')
  have HF := hide (fun w' => gFits_any W H bx byy bw bh w')
  have HH := hide (fun w' => gHas_any bx byy bw bh x y w')
  obtain ⟨hm, hl, hf, hh⟩ := lookE_ok.1 he
  rw [checkE_ok.2 ⟨hm, hl⟩] at HC
  rw [fitsG_eq hm, hf] at HF
  rw [hasG_eq hm hf, hh] at HH
  clear he hm hl hf hh
  go_enter Try.func108, Try.ntmps108
  go_wp2_with (first
        | (go_at_call 65; refine (HC.out _).mono ?_; rintro e w1 ⟨rfl, hb1⟩; obtain ⟨hc1, hf1⟩ := hb1.cells; have hz1 := hb1.size; (repeat (first | rw [World.size_alloc] at hz1 | rw [World.size_drew] at hz1)); have z1_0 : w.heap.size < w1.heap.size := (by omega); have z1_1 : w.heap.size + 1 < w1.heap.size := (by omega); have z1_2 : w.heap.size + 2 < w1.heap.size := (by omega); have z1_3 : w.heap.size + 3 < w1.heap.size := (by omega))
        | (go_at_call 147; refine (HF.out _).mono ?_; rintro e w2 ⟨rfl, hb2⟩; obtain ⟨hc2, hf2⟩ := hb2.cells; have hz2 := hb2.size; (repeat (first | rw [World.size_alloc] at hz2 | rw [World.size_drew] at hz2)); have z2_0 : w.heap.size < w2.heap.size := (by omega); have z2_1 : w.heap.size + 1 < w2.heap.size := (by omega); have z2_2 : w.heap.size + 2 < w2.heap.size := (by omega); have z2_3 : w.heap.size + 3 < w2.heap.size := (by omega))
        | (go_at_call 148; refine (HH.out _).mono ?_; rintro e w3 ⟨rfl, hb3⟩; obtain ⟨hc3, hf3⟩ := hb3.cells; have hz3 := hb3.size; (repeat (first | rw [World.size_alloc] at hz3 | rw [World.size_drew] at hz3)); have z3_0 : w.heap.size < w3.heap.size := (by omega); have z3_1 : w.heap.size + 1 < w3.heap.size := (by omega); have z3_2 : w.heap.size + 2 < w3.heap.size := (by omega); have z3_3 : w.heap.size + 3 < w3.heap.size := (by omega)))
  exact bodyPost_ret (v := .tuple #[.agg #[.int .i64 W, .int .i64 H, .slice a n c, .int .i64 bx, .int .i64 byy, .int .i64 bw, .int .i64 bh], .int .i64 0]) (by simp [results, Try.results108, go_sem, *]) rfl ⟨rfl, (by (with_reducible (repeat' (first | exact Ext.refl _ | assumption | refine Ext.drew ?_ | refine Ext.drewN ?_ _ | refine Ext.alloc ?_ _ | refine Ext.setCell ?_ ?_ _ | refine Ext.trans ?_ (by assumption)))); all_goals (first | (simp; done) | (simp; omega)))⟩

theorem land_of {w : World} {W H : Int} {a : Option Addr} {l : List Int} {bx byy bw bh x y : Int} (he : lookE W H l.length bx byy bw bh x y = 0) (hr : Row16 w a l) (hu : U16s l) : LandAt w W H a l bx byy bw bh := by
  obtain ⟨hm, hl, hf, hh⟩ := lookE_ok.1 he
  exact ⟨hm, hl, hr, hu, hf⟩
theorem landP_of {W H : Int} {l : List Int} {bx byy bw bh x y : Int} (he : lookE W H l.length bx byy bw bh x y = 0) (hu : U16s l) : LandP W H l bx byy bw bh := by
  obtain ⟨hm, hl, hf, hh⟩ := lookE_ok.1 he
  exact ⟨hm, hl, hu, hf⟩

theorem far_wall {W H : Int} {l : List Int} {bx byy bw bh : Int} (L : LandP W H l bx byy bw bh) {s : Nat} (h : (mapNet L).op s = false) : IsFar (mapNet L) s (fun _ => infI) ∧ FarLow (mapNet L) (fun _ => infI) :=
  ⟨⟨(fun e => by rw [h] at e; cases e), (fun _ _ => rfl), (fun _ => by decide), (fun _ => Int.le_refl _), (fun v hv _ u _ _ h2 => by have := (mapNet L).pos v hv; omega), fun v _ _ h2 => absurd h2 (Int.lt_irrefl _)⟩, fun v h2 => absurd h2 (Int.lt_irrefl _)⟩

theorem fFlood_any {w : World} {W H : Int} {a : Option Addr} {l : List Int} {bx byy bw bh : Int} (L : LandAt w W H a l bx byy bw bh) (c : Nat) (x y : Int) (hin : hasB bx byy bw bh x y = true) :
    Calls Try.prog 109 #[.agg #[.int .i64 W, .int .i64 H, .slice a l.length c, .int .i64 bx, .int .i64 byy, .int .i64 bw, .int .i64 bh], .agg #[.int .i64 x, .int .i64 y]] w fun e w' =>
      ∃ v far, e = .returned v ∧ Ext w w' ∧ Own u64E w' w.heap.size 38 v (farL far l.length) ∧ IsFar (mapNet L.plain) (idxN W (x, y)) far ∧ FarLow (mapNet L.plain) far := by
  cases ho : openB l W bx byy bw bh x y
  · refine (fFlood_shut L c x y ho).mono ?_
    rintro e w' ⟨v, h1, h2, h3⟩
    have := L.plain.opV_idx (L.plain.in_ hin)
    rw [ho] at this
    exact ⟨v, _, h1, h2, h3, far_wall L.plain this⟩
  · exact fFlood_open L c x y ho

set_option maxRecDepth 100000 in
theorem fWithin_bad {w : World} (W H : Int) (a : Option Addr) (n c : Nat) (bx byy bw bh x y : Int) (he : lookE W H n bx byy bw bh x y ≠ 0) :
    Calls Try.prog 64 #[.agg #[.int .i64 W, .int .i64 H, .slice a n c], .agg #[.int .i64 bx, .int .i64 byy, .int .i64 bw, .int .i64 bh], .agg #[.int .i64 x, .int .i64 y]] w fun e w' => e = .returned (.tuple #[.slice none 0 0, .int .i64 (lookE W H n bx byy bw bh x y)]) ∧ Ext w w' := by
  have HL := hide (fun (w' : World) => fLook_bad (w := w') W H a n c bx byy bw bh x y he)
  generalize lookE W H n bx byy bw bh x y = le at *
  have hle : (le != 0) = true := by simpa using he
  clear he
  go_enter Try.func64, Try.ntmps64
  go_wp2_with (go_at_call 108; refine (HL.out _).mono ?_; rintro e w1 ⟨rfl, hb1⟩)
  exact bodyPost_ret (v := .tuple #[.slice none 0 0, .int .i64 le]) (by simp [results, Try.results64, go_sem, *]) rfl ⟨rfl, (by (with_reducible (repeat' (first | exact Ext.refl _ | assumption | refine Ext.drew ?_ | refine Ext.drewN ?_ _ | refine Ext.alloc ?_ _ | refine Ext.setCell ?_ ?_ _ | refine Ext.trans ?_ (by assumption)))); all_goals (first | (simp; done) | (simp; omega)))⟩

set_option maxRecDepth 100000 in
theorem fWithin_ok {w : World} {W H : Int} {a : Option Addr} {l : List Int} {bx byy bw bh x y : Int} (c : Nat) (he : lookE W H l.length bx byy bw bh x y = 0) (hr : Row16 w a l) (hu : U16s l) :
    Calls Try.prog 64 #[.agg #[.int .i64 W, .int .i64 H, .slice a l.length c], .agg #[.int .i64 bx, .int .i64 byy, .int .i64 bw, .int .i64 bh], .agg #[.int .i64 x, .int .i64 y]] w fun e w' =>
      ∃ v far, e = .returned (.tuple #[v, .int .i64 0]) ∧ Ext w w' ∧ Own u64E w' w.heap.size 38 v (farL far l.length) ∧ IsFar (mapNet (landP_of he hu)) (idxN W (x, y)) far ∧ FarLow (mapNet (landP_of he hu)) far := by
  have HL := hide (fun (w' : World) => fLook_ok (w := w') W H a l.length c bx byy bw bh x y he)
  have HF := hide (fun (w' : World) (hx : Ext w w') => fFlood_any ((land_of he hr hu).ext hx) c x y (lookE_ok.1 he).2.2.2)
  obtain ⟨G, hG⟩ : ∃ G, mapNet (landP_of he hu) = G := ⟨_, rfl⟩
  rw [hG]
  have HF2 := hide (fun (w' : World) (hx : Ext w w') => (by have := HF.out w' hx; rw [hG] at this; exact this : Calls Try.prog 109 #[.agg #[.int .i64 W, .int .i64 H, .slice a l.length c, .int .i64 bx, .int .i64 byy, .int .i64 bw, .int .i64 bh], .agg #[.int .i64 x, .int .i64 y]] w' fun e w'' =>
      ∃ v far, e = .returned v ∧ Ext w' w'' ∧ Own u64E w'' w'.heap.size 38 v (farL far l.length) ∧ IsFar G (idxN W (x, y)) far ∧ FarLow G far))
  generalize idxN W (x, y) = s at *
  obtain ⟨n, hn⟩ : ∃ n, l.length = n := ⟨_, rfl⟩
  rw [hn] at HL HF2 ⊢
  clear HF hG hr hu hn he
  go_enter Try.func64, Try.ntmps64
  go_wp2_with (go_at_call 108; refine (HL.out _).mono ?_; rintro e w1 ⟨rfl, hb1⟩; obtain ⟨hc1, hf1⟩ := hb1.cells; have hz1 := hb1.size; (repeat (first | rw [World.size_alloc] at hz1 | rw [World.size_drew] at hz1)); have z1_0 : w.heap.size < w1.heap.size := (by omega); have z1_1 : w.heap.size + 1 < w1.heap.size := (by omega); have z1_2 : w.heap.size + 2 < w1.heap.size := (by omega))
  refine (HF2.out _ (by (with_reducible (repeat' (first | exact Ext.refl _ | assumption | refine Ext.drew ?_ | refine Ext.drewN ?_ _ | refine Ext.alloc ?_ _ | refine Ext.setCell ?_ ?_ _ | refine Ext.trans ?_ (by assumption)))); all_goals (first | (simp; done) | (simp; omega)))).mono ?_
  rintro e w2 ⟨v, far, rfl, hx2, hv, h1, h2⟩
  have hxx : Ext w w2 := (by (with_reducible (repeat' (first | exact Ext.refl _ | assumption | refine Ext.drew ?_ | refine Ext.drewN ?_ _ | refine Ext.alloc ?_ _ | refine Ext.setCell ?_ ?_ _ | refine Ext.trans ?_ (by assumption)))); all_goals (first | (simp; done) | (simp; omega)))
  have HV := hide (hv.lower (base' := w.heap.size) (by simp; omega))
  have H1 := hide h1
  have H2 := hide h2
  clear hv h1 h2
  go_wp2
  exact bodyPost_ret (v := .tuple #[v, .int .i64 0]) (by simp [results, Try.results64, go_sem, *]) rfl ⟨v, far, rfl, hxx, HV.out, H1.out, H2.out⟩
end Go.Proofs.Ytifbmapianddcaa
