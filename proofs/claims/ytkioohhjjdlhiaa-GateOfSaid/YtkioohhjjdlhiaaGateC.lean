/- The walk of gate's Between. -/
import Derived.Test.YtkioohhjjdlhiaaGateB
import Derived.Test.YtkioohhjjdlhiaaPartF
import Derived.Test.YtkioohhjjdlhiaaRefC
import Derived.Laws.EntriesVeiled
set_option linter.all false
set_option linter.unusedVariables false
set_option linter.unusedSimpArgs false
namespace Go.Proofs.Ytkioohhjjdlhiaa
open Go.RowKit

/-- Which pairs of a border have no wall, by their number. -/
def opB (l : List Int) (W : Int) (B : List (Cell × Cell)) (k : Nat) : Bool := match B[k]? with
  | some p => openP l W p
  | none => false
def InMap (W H : Int) (p : Cell × Cell) : Prop := (0 ≤ p.1.1 ∧ p.1.1 < W ∧ 0 ≤ p.1.2 ∧ p.1.2 < H) ∧ (0 ≤ p.2.1 ∧ p.2.1 < W ∧ 0 ≤ p.2.2 ∧ p.2.2 < H)
def gatesL (l : List Int) (W : Int) (B : List (Cell × Cell)) : List (Cell × Cell) := pick B (gatesI (opB l W B) B.length 0)

def RetGatesE (w : World) (L : List (Cell × Cell)) (err : Int) (e : Ending) (w' : World) : Prop := ∃ v, e = .returned (.tuple #[v, .int .i64 err]) ∧ Ext w w' ∧ Own pairE w' w.heap.size 65 v L

theorem gtBetween_chk (W H : Int) (a : Option Addr) (n c : Nat) (pW pH s x y : Int) (w : World) (h : (gateE W H pW pH n != 0) = true) :
    Calls Try.prog 14 #[.agg #[.int .i64 W, .int .i64 H, .slice a n c], .agg #[.int .i64 pW, .int .i64 pH, .int .i64 s], .int .i64 x, .int .i64 y] w fun e w' => e = .returned (.tuple #[.slice none 0 0, .int .i64 (gateE W H pW pH n)]) ∧ Ext w w' := by
  go_enter Try.func14, Try.ntmps14
  go_wp2_with (go_at_call 15; refine (gtCheck_any _ _ _ _ _ _ _ _ _).mono ?_; rintro e w1 ⟨rfl, hb1⟩; obtain ⟨hc1, hf1⟩ := hb1.cells; have hz1 := hb1.size; (repeat (first | rw [World.size_alloc] at hz1 | rw [World.size_drew] at hz1)); have z1_0 : w.heap.size < w1.heap.size := (by omega); have z1_1 : w.heap.size + 1 < w1.heap.size := (by omega))
  go_ret2
  exact ⟨rfl, (by (with_reducible (repeat' (first | exact Ext.refl _ | assumption | refine Ext.drew ?_ | refine Ext.drewN ?_ _ | refine Ext.alloc ?_ _ | refine Ext.setCell ?_ ?_ _ | refine Ext.trans ?_ (by assumption)))); all_goals (first | (simp; done) | (simp; omega)))⟩

theorem gtBetween_err (W H : Int) (a : Option Addr) (n c : Nat) (pW pH s x y er : Int) (w : World) (h : gateE W H pW pH n = 0) (he : (er != 0) = true)
    (hB : ∀ w, Calls Try.prog 30 #[.agg #[.int .i64 pW, .int .i64 pH, .int .i64 s], .int .i64 x, .int .i64 y] w fun e w' => e = .returned (.tuple #[.slice none 0 0, .int .i64 er]) ∧ Ext w w') :
    Calls Try.prog 14 #[.agg #[.int .i64 W, .int .i64 H, .slice a n c], .agg #[.int .i64 pW, .int .i64 pH, .int .i64 s], .int .i64 x, .int .i64 y] w fun e w' => e = .returned (.tuple #[.slice none 0 0, .int .i64 er]) ∧ Ext w w' := by
  have HB := hide hB
  have HH := hide h
  clear hB h
  go_enter Try.func14, Try.ntmps14
  go_wp2_with (first
    | (go_at_call 15; refine (gtCheck_any _ _ _ _ _ _ _ _ _).mono ?_; rintro e w1 ⟨rfl, hb1⟩; rw [HH.out]; obtain ⟨hc1, hf1⟩ := hb1.cells; have hz1 := hb1.size; (repeat (first | rw [World.size_alloc] at hz1 | rw [World.size_drew] at hz1)); have z1_0 : w.heap.size < w1.heap.size := (by omega); have z1_1 : w.heap.size + 1 < w1.heap.size := (by omega))
    | (go_at_call 30; refine (HB.out _).mono ?_; rintro e w2 ⟨rfl, hb2⟩; obtain ⟨hc2, hf2⟩ := hb2.cells; have hz2 := hb2.size; (repeat (first | rw [World.size_alloc] at hz2 | rw [World.size_drew] at hz2)); have z2_0 : w.heap.size < w2.heap.size := (by omega); have z2_1 : w.heap.size + 1 < w2.heap.size := (by omega)))
  go_ret2
  exact ⟨rfl, (by (with_reducible (repeat' (first | exact Ext.refl _ | assumption | refine Ext.drew ?_ | refine Ext.drewN ?_ _ | refine Ext.alloc ?_ _ | refine Ext.setCell ?_ ?_ _ | refine Ext.trans ?_ (by assumption)))); all_goals (first | (simp; done) | (simp; omega)))⟩

set_option maxRecDepth 100000 in
set_option maxHeartbeats 1000000 in
theorem gtBetween_yes (W H : Int) (a : Option Addr) (l : List Int) (c : Nat) (s x y : Int) (B : List (Cell × Cell)) (w : World) (hm : mayB W H = true) (hl : (l.length : Int) = W * H) (hr : Row16 w a l)
    (hB : ∀ w, Calls Try.prog 30 #[.agg #[.int .i64 W, .int .i64 H, .int .i64 s], .int .i64 x, .int .i64 y] w (RetPairs w B 0)) (hl1 : 0 < B.length) (hl2 : B.length ≤ 1000) (hin : ∀ (k : Nat) (p : Cell × Cell), B[k]? = some p → InMap W H p) :
    Calls Try.prog 14 #[.agg #[.int .i64 W, .int .i64 H, .slice a l.length c], .agg #[.int .i64 W, .int .i64 H, .int .i64 s], .int .i64 x, .int .i64 y] w (RetGatesE w (gatesL l W B) 0) := by
  have h0 := hide (show gateE W H W H l.length = 0 by simp [gateE, checkE_ok.2 ⟨hm, hl⟩])
  have HB := hide hB
  have HL := hide hl
  have HR := hide hr
  have HIN := hide hin
  clear hB hl hr hin
  obtain ⟨n, hn⟩ : ∃ n, l.length = n := ⟨_, rfl⟩
  rw [hn] at h0 ⊢
  have HN := hide hn
  clear hn
  go_enter Try.func14, Try.ntmps14
  go_wp2_with (first
    | (go_at_call 15; refine (gtCheck_any _ _ _ _ _ _ _ _ _).mono ?_; rintro e w1 ⟨rfl, hb1⟩; rw [h0.out]; obtain ⟨hc1, hf1⟩ := hb1.cells; have hz1 := hb1.size; (repeat (first | rw [World.size_alloc] at hz1 | rw [World.size_drew] at hz1)); have z1_0 : w.heap.size < w1.heap.size := (by omega); have z1_1 : w.heap.size + 1 < w1.heap.size := (by omega))
    | (go_at_call 30; refine (HB.out _).mono ?_; rintro e w2 ⟨v, rfl, hb2, hv⟩; obtain ⟨g, cc, rfl, hg1, hg2⟩ := hv.pos hl1; have HV := hide hv; clear hv; obtain ⟨hc2, hf2⟩ := hb2.cells; have hz2 := hb2.size; (repeat (first | rw [World.size_alloc] at hz2 | rw [World.size_drew] at hz2)); have z2_0 : w.heap.size < w2.heap.size := (by omega); have z2_1 : w.heap.size + 1 < w2.heap.size := (by omega)))
  obtain ⟨w3, hw3⟩ : ∃ w3, w3 = w2.alloc (.cells #[.func (.func 31) #[] #[.pointer (some ⟨w.heap.size, 0, none⟩)]] 77) := ⟨_, rfl⟩
  have hx2 : Ext w w2 := (by (with_reducible (repeat' (first | exact Ext.refl _ | assumption | refine Ext.drew ?_ | refine Ext.drewN ?_ _ | refine Ext.alloc ?_ _ | refine Ext.setCell ?_ ?_ _ | refine Ext.trans ?_ (by assumption)))); all_goals (first | (simp; done) | (simp; omega)))
  have hx3 : Ext w w3 := by rw [hw3]; exact (by (with_reducible (repeat' (first | exact Ext.refl _ | assumption | refine Ext.drew ?_ | refine Ext.drewN ?_ _ | refine Ext.alloc ?_ _ | refine Ext.setCell ?_ ?_ _ | refine Ext.trans ?_ (by assumption)))); all_goals (first | (simp; done) | (simp; omega)))
  have hx23 : Ext w2 w3 := by rw [hw3]; exact (by (with_reducible (repeat' (first | exact Ext.refl _ | assumption | refine Ext.drew ?_ | refine Ext.drewN ?_ _ | refine Ext.alloc ?_ _ | refine Ext.setCell ?_ ?_ _ | refine Ext.trans ?_ (by assumption)))); all_goals (first | (simp; done) | (simp; omega)))
  have zq : w.heap.size < w3.heap.size := by have := hx23.size; omega
  have zr : w2.heap.size < w3.heap.size := by rw [hw3]; simp
  have k0 : w3.cell? ⟨w.heap.size, 0, none⟩ = some (.int .i64 W) := by rw [hx23.cell (p := ⟨w.heap.size, 0, none⟩) z2_0, hc2 _ _ z1_0, hc1 _ _ (by simp; omega)]; simp [go_sem]
  have k1 : w3.cell? ⟨w.heap.size, 2, none⟩ = some (.slice a n c) := by rw [hx23.cell (p := ⟨w.heap.size, 2, none⟩) z2_0, hc2 _ _ z1_0, hc1 _ _ (by simp; omega)]; simp [go_sem]
  have k2 : w3.cell? ⟨w2.heap.size, 0, none⟩ = some (.func (.func 31) #[] #[.pointer (some ⟨w.heap.size, 0, none⟩)]) := by rw [hw3]; simp [go_sem]
  have hop : ∀ w', Ext w3 w' → ∀ (k : Nat) (p : Cell × Cell), B[k]? = some p → Calls Try.prog 33 #[.agg #[.int .i64 p.1.1, .int .i64 p.1.2, .int .i64 p.2.1, .int .i64 p.2.2], .pointer (some ⟨w2.heap.size, 0, none⟩)] w' fun e w2 => e = .returned (.bool (opB l W B k)) ∧ Ext w' w2 := by
    intro w' hx k p hp
    have e : opB l W B k = openP l W p := by unfold opB; rw [hp]
    rw [e]
    have hi := HIN.out k p hp
    exact gtB2_any W H a l c w.heap.size w2.heap.size p w' hm HL.out (HR.out.ext (hx3.trans hx)) (Nat.lt_of_lt_of_le zq hx.size) (Nat.lt_of_lt_of_le zr hx.size)
      ((hx.cell (p := ⟨w.heap.size, 0, none⟩) zq).trans k0) (by rw [HN.out]; exact (hx.cell (p := ⟨w.heap.size, 2, none⟩) zq).trans k1) ((hx.cell (p := ⟨w2.heap.size, 0, none⟩) zr).trans k2) hi.1 hi.2
  have HOP := hide hop
  have HX3 := hide hx3
  have hg3 : g < w3.heap.size := by have := hx23.size; omega
  have HPA := hide ((HV.out.ext hx23).reads.pairs.2)
  rw [← hw3]
  clear hop k0 k1 k2 hb1 hb2 hc1 hc2 hf1 hf2 hw3 hx2 hx3 hx23
  go_wp2_with fail
  refine (gtRuns_any g cc B _ (opB l W B) _ (by omega) hg3 HPA.out HOP.out).mono ?_
  rintro e w4 ⟨v, rfl, hb4, hv⟩
  have HV4 := hide hv
  clear hv
  go_wp2
  go_ret2
  exact ⟨_, rfl, HX3.out.trans hb4, HV4.out.lower (by omega)⟩
end Go.Proofs.Ytkioohhjjdlhiaa
