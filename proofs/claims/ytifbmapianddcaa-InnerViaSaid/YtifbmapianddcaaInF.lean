/- Walks of layer 13: To and Back. -/
import Derived.Test.YtifbmapianddcaaInE
set_option linter.all false
set_option linter.unusedVariables false
set_option linter.unusedSimpArgs false
namespace Go.Proofs.Ytifbmapianddcaa
open Go.RowKit

/-- What To and Back are refused for. -/
def toE (W H : Int) (n : Nat) (PW PH s id : Int) (cs : List Cell) (p : Cell) : Int := if innerE W H n PW PH s id cs = 0 then lookE W H n (boxX W s id) (boxY W s id) (boxW W s id) (boxH W H s id) p.1 p.2 else innerE W H n PW PH s id cs

set_option maxRecDepth 100000 in
theorem iTo_bad {w : World} (W H : Int) (a : Option Addr) (n c : Nat) (PW PH s id : Int) (ca : Option Addr) (cs : List Cell) (cc : Nat) (ra : Option Addr) (rn rc : Nat) (p : Cell) (hc : RowC w ca cs) (hl : cs.length ≤ 1000000) (hi : ∀ p ∈ cs, InI p.1 ∧ InI p.2) (he : toE W H n PW PH s id cs p ≠ 0) :
    Calls Try.prog 31 #[.agg #[.int .i64 W, .int .i64 H, .slice a n c], .agg #[.int .i64 PW, .int .i64 PH, .int .i64 s], .int .i64 id, .agg #[.slice ca cs.length cc, .slice ra rn rc], .agg #[.int .i64 p.1, .int .i64 p.2]] w fun e w' => e = .returned (.tuple #[.slice none 0 0, .int .i64 (toE W H n PW PH s id cs p)]) ∧ Ext w w' := by
  have HL := hide (fun (w' : World) (hx : Ext w w') => iLook_any (w := w') W H a n c PW PH s id ca cs cc (hc.ext hx) hl hi)
  obtain ⟨x, y⟩ := p
  by_cases h0 : innerE W H n PW PH s id cs = 0
  · have h1 : toE W H n PW PH s id cs (x, y) = lookE W H n (boxX W s id) (boxY W s id) (boxW W s id) (boxH W H s id) x y := by unfold toE; rw [if_pos h0]
    rw [h1] at he ⊢
    have HF := hide (fun (w' : World) => iFar_bad (w := w') W H a n c (boxX W s id) (boxY W s id) (boxW W s id) (boxH W H s id) x y ca cs.length cc he)
    rw [h0] at HL
    generalize lookE W H n (boxX W s id) (boxY W s id) (boxW W s id) (boxH W H s id) x y = er at *
    obtain ⟨m, hm⟩ : ∃ z, cs.length = z := ⟨_, rfl⟩
    rw [hm] at HL HF ⊢
    clear hc hl hi h0 h1 he hm
    simp only
    go_enter Try.func31, Try.ntmps31
    go_wp2_with fail
    refine (HL.out _ (by (with_reducible (repeat' (first | exact Ext.refl _ | assumption | refine Ext.drew ?_ | refine Ext.drewN ?_ _ | refine Ext.alloc ?_ _ | refine Ext.setCell ?_ ?_ _ | refine Ext.trans ?_ (by assumption)))); all_goals (first | (simp; done) | (simp; omega)))).mono ?_
    rintro e w1 ⟨⟨v, rfl, hv⟩, hb1⟩
    obtain ⟨hc1, hf1⟩ := hb1.cells; have hz1 := hb1.size; (repeat (first | rw [World.size_alloc] at hz1 | rw [World.size_drew] at hz1)); have z1_0 : w.heap.size < w1.heap.size := (by omega); have z1_1 : w.heap.size + 1 < w1.heap.size := (by omega); have z1_2 : w.heap.size + 2 < w1.heap.size := (by omega); have z1_3 : w.heap.size + 3 < w1.heap.size := (by omega)
    rcases hv with ⟨h0, _⟩ | ⟨_, rfl⟩
    · exact absurd rfl h0
    · go_wp2_with fail
      refine (HF.out _).mono ?_
      rintro e w2 ⟨rfl, hb2⟩
      go_wp2_with fail
      go_ret2
      exact ⟨rfl, (by (with_reducible (repeat' (first | exact Ext.refl _ | assumption | refine Ext.drew ?_ | refine Ext.drewN ?_ _ | refine Ext.alloc ?_ _ | refine Ext.setCell ?_ ?_ _ | refine Ext.trans ?_ (by assumption)))); all_goals (first | (simp; done) | (simp; omega)))⟩
  · have h1 : toE W H n PW PH s id cs (x, y) = innerE W H n PW PH s id cs := by unfold toE; rw [if_neg h0]
    rw [h1] at he ⊢
    generalize innerE W H n PW PH s id cs = er at *
    have hb : (er != 0) = true := by simpa using he
    have HER := hide he
    obtain ⟨m, hm⟩ : ∃ z, cs.length = z := ⟨_, rfl⟩
    rw [hm] at HL ⊢
    clear hc hl hi he hm h0 h1
    simp only
    go_enter Try.func31, Try.ntmps31
    go_wp2_with fail
    refine (HL.out _ (by (with_reducible (repeat' (first | exact Ext.refl _ | assumption | refine Ext.drew ?_ | refine Ext.drewN ?_ _ | refine Ext.alloc ?_ _ | refine Ext.setCell ?_ ?_ _ | refine Ext.trans ?_ (by assumption)))); all_goals (first | (simp; done) | (simp; omega)))).mono ?_
    rintro e w1 ⟨⟨v, rfl, hv⟩, hb1⟩
    rcases hv with ⟨_, x1, x2, a3, n3, c3, x4, x5, x6, x7, rfl⟩ | ⟨h0, _⟩
    · go_wp2_with fail
      go_ret2
      exact ⟨rfl, (by (with_reducible (repeat' (first | exact Ext.refl _ | assumption | refine Ext.drew ?_ | refine Ext.drewN ?_ _ | refine Ext.alloc ?_ _ | refine Ext.setCell ?_ ?_ _ | refine Ext.trans ?_ (by assumption)))); all_goals (first | (simp; done) | (simp; omega)))⟩
    · exact absurd h0 HER.out

theorem toE_ok {W H : Int} {n : Nat} {PW PH s id : Int} {cs : List Cell} {p : Cell} (h : toE W H n PW PH s id cs p = 0) : innerE W H n PW PH s id cs = 0 ∧ lookE W H n (boxX W s id) (boxY W s id) (boxW W s id) (boxH W H s id) p.1 p.2 = 0 := by
  unfold toE at h
  split at h
  · next h1 => exact ⟨h1, h⟩
  · next h1 => exact absurd h h1

set_option maxRecDepth 100000 in
theorem iTo_ok {w : World} {W H : Int} {a : Option Addr} {l : List Int} (c : Nat) {PW PH s id : Int} {ca : Option Addr} {cs : List Cell} (cc : Nat) (ra : Option Addr) (rn rc : Nat) {p : Cell} (hr : Row16 w a l) (hc : RowC w ca cs) (hl : cs.length ≤ 1000000) (hi : ∀ p ∈ cs, InI p.1 ∧ InI p.2) (he : toE W H l.length PW PH s id cs p = 0) (L : boxL W H s id l) :
    Calls Try.prog 31 #[.agg #[.int .i64 W, .int .i64 H, .slice a l.length c], .agg #[.int .i64 PW, .int .i64 PH, .int .i64 s], .int .i64 id, .agg #[.slice ca cs.length cc, .slice ra rn rc], .agg #[.int .i64 p.1, .int .i64 p.2]] w fun e w' => ∃ sv : Option Addr × Nat × Nat, e = .returned (.tuple #[.slice sv.1 sv.2.1 sv.2.2, .int .i64 0]) ∧ Ext w w' ∧ Own u64E w' w.heap.size 38 (.slice sv.1 sv.2.1 sv.2.2) (rowD L cs p) := by
  obtain ⟨h0, h1⟩ := toE_ok he
  obtain ⟨e1, e2, e3, e4, e5, e6⟩ := innerE_ok.1 h0
  have hok := cells_ok e4 e5 e6
  have HL := hide (fun (w' : World) (hx : Ext w w') => iLook_any (w := w') W H a l.length c PW PH s id ca cs cc (hc.ext hx) hl hi)
  rw [h0] at HL
  have HF := hide (fun (w' : World) (hx : Ext w w') => iFar_ok (w := w') L c p (lookE_ok.1 h1).2.2.2 cc hok hl (hr.ext hx) (hc.ext hx))
  obtain ⟨x, y⟩ := p
  obtain ⟨n, hn⟩ : ∃ z, l.length = z := ⟨_, rfl⟩
  obtain ⟨m, hm⟩ : ∃ z, cs.length = z := ⟨_, rfl⟩
  rw [hn, hm] at HL HF ⊢
  clear hc hi he hr hok hn hm e1 e2 e3 e4 e5 e6 h0 h1 hl
  simp only at HF ⊢
  go_enter Try.func31, Try.ntmps31
  go_wp2_with fail
  refine (HL.out _ (by (with_reducible (repeat' (first | exact Ext.refl _ | assumption | refine Ext.drew ?_ | refine Ext.drewN ?_ _ | refine Ext.alloc ?_ _ | refine Ext.setCell ?_ ?_ _ | refine Ext.trans ?_ (by assumption)))); all_goals (first | (simp; done) | (simp; omega)))).mono ?_
  rintro e w1 ⟨⟨v, rfl, hv⟩, hb1⟩
  obtain ⟨hc1, hf1⟩ := hb1.cells; have hz1 := hb1.size; (repeat (first | rw [World.size_alloc] at hz1 | rw [World.size_drew] at hz1)); have z1_0 : w.heap.size < w1.heap.size := (by omega); have z1_1 : w.heap.size + 1 < w1.heap.size := (by omega); have z1_2 : w.heap.size + 2 < w1.heap.size := (by omega); have z1_3 : w.heap.size + 3 < w1.heap.size := (by omega)
  rcases hv with ⟨h0, _⟩ | ⟨_, rfl⟩
  · exact absurd rfl h0
  · go_wp2_with fail
    refine (HF.out _ (by (with_reducible (repeat' (first | exact Ext.refl _ | assumption | refine Ext.drew ?_ | refine Ext.drewN ?_ _ | refine Ext.alloc ?_ _ | refine Ext.setCell ?_ ?_ _ | refine Ext.trans ?_ (by assumption)))); all_goals (first | (simp; done) | (simp; omega)))).mono ?_
    rintro e w2 ⟨sv, rfl, hb2, ho2⟩
    have hx2 : Ext w w2 := (by (with_reducible (repeat' (first | exact Ext.refl _ | assumption | refine Ext.drew ?_ | refine Ext.drewN ?_ _ | refine Ext.alloc ?_ _ | refine Ext.setCell ?_ ?_ _ | refine Ext.trans ?_ (by assumption)))); all_goals (first | (simp; done) | (simp; omega)))
    have hz1 : w.heap.size ≤ w1.heap.size := by omega
    have O2 := hide (ho2.lower (base' := w.heap.size) (by simp; omega))
    clear ho2 hb2
    go_wp2_with fail
    go_ret2
    exact ⟨sv, rfl, hx2, O2.out⟩
end Go.Proofs.Ytifbmapianddcaa
