/- Walks of gate's small functions: check, the closures of Between. -/
import Derived.Test.YtkioohhjjdlhiaaField
set_option linter.all false
set_option linter.unusedVariables false
set_option linter.unusedSimpArgs false
namespace Go.Proofs.Ytkioohhjjdlhiaa
open Go.RowKit

def gateE (W H pW pH : Int) (n : Nat) : Int := if checkE W H n = 0 then (if pW = W ∧ pH = H then 0 else 1) else checkE W H n

theorem gtCheck_any (W H : Int) (a : Option Addr) (n c : Nat) (pW pH s : Int) (w : World) :
    Calls Try.prog 15 #[.agg #[.int .i64 W, .int .i64 H, .slice a n c], .agg #[.int .i64 pW, .int .i64 pH, .int .i64 s]] w fun e w' => e = .returned (.int .i64 (gateE W H pW pH n)) ∧ Ext w w' := by
  have hq := fun w => eq_size pW pH W H w
  by_cases h0 : checkE W H n = 0
  · have h0' : (checkE W H n != 0) = false := by simpa using h0
    by_cases he : pW = W ∧ pH = H
    · have e0 : gateE W H pW pH n = 0 := by simp [gateE, h0, he]
      rw [e0]
      have q : (pW == W && pH == H) = true := by simpa using he
      clear e0 h0 he
      go_enter Try.func15, Try.ntmps15
      go_wp2_with (go_at_call 34; refine (gCheck_any _ _ _ _ _ _).mono ?_; rintro e w1 ⟨rfl, hb1⟩; obtain ⟨hc1, hf1⟩ := hb1.cells; have hz1 := hb1.size; (repeat (first | rw [World.size_alloc] at hz1 | rw [World.size_drew] at hz1)); have z1_0 : w.heap.size < w1.heap.size := (by omega); have z1_1 : w.heap.size + 1 < w1.heap.size := (by omega))
      go_ret
      exact ⟨rfl, (by (with_reducible (repeat' (first | exact Ext.refl _ | assumption | refine Ext.drew ?_ | refine Ext.drewN ?_ _ | refine Ext.alloc ?_ _ | refine Ext.setCell ?_ ?_ _ | refine Ext.trans ?_ (by assumption)))); all_goals (first | (simp; done) | (simp; omega)))⟩
    · have e0 : gateE W H pW pH n = 1 := by simp [gateE, h0, he]
      rw [e0]
      have q : (pW == W && pH == H) = false := by simpa using he
      clear e0 h0 he
      go_enter Try.func15, Try.ntmps15
      go_wp2_with (go_at_call 34; refine (gCheck_any _ _ _ _ _ _).mono ?_; rintro e w1 ⟨rfl, hb1⟩; obtain ⟨hc1, hf1⟩ := hb1.cells; have hz1 := hb1.size; (repeat (first | rw [World.size_alloc] at hz1 | rw [World.size_drew] at hz1)); have z1_0 : w.heap.size < w1.heap.size := (by omega); have z1_1 : w.heap.size + 1 < w1.heap.size := (by omega))
      go_ret
      exact ⟨rfl, (by (with_reducible (repeat' (first | exact Ext.refl _ | assumption | refine Ext.drew ?_ | refine Ext.drewN ?_ _ | refine Ext.alloc ?_ _ | refine Ext.setCell ?_ ?_ _ | refine Ext.trans ?_ (by assumption)))); all_goals (first | (simp; done) | (simp; omega)))⟩
  · have h0' : (checkE W H n != 0) = true := by simpa using h0
    have e0 : gateE W H pW pH n = checkE W H n := by simp [gateE, h0]
    rw [e0]
    clear e0 h0 hq
    go_enter Try.func15, Try.ntmps15
    go_wp2_with (go_at_call 34; refine (gCheck_any _ _ _ _ _ _).mono ?_; rintro e w1 ⟨rfl, hb1⟩; obtain ⟨hc1, hf1⟩ := hb1.cells; have hz1 := hb1.size; (repeat (first | rw [World.size_alloc] at hz1 | rw [World.size_drew] at hz1)); have z1_0 : w.heap.size < w1.heap.size := (by omega); have z1_1 : w.heap.size + 1 < w1.heap.size := (by omega))
    go_ret
    exact ⟨rfl, (by (with_reducible (repeat' (first | exact Ext.refl _ | assumption | refine Ext.drew ?_ | refine Ext.drewN ?_ _ | refine Ext.alloc ?_ _ | refine Ext.setCell ?_ ?_ _ | refine Ext.trans ?_ (by assumption)))); all_goals (first | (simp; done) | (simp; omega)))⟩

theorem gtB1_any (W H : Int) (a : Option Addr) (l : List Int) (c q : Nat) (x y : Int) (w : World) (hm : mayB W H = true) (hl : (l.length : Int) = W * H) (hr : Row16 w a l) (hq : q < w.heap.size)
    (c0 : w.cell? ⟨q, 0, none⟩ = some (.int .i64 W)) (c1 : w.cell? ⟨q, 2, none⟩ = some (.slice a l.length c)) (h1 : 0 ≤ x) (h2 : x < W) (h3 : 0 ≤ y) (h4 : y < H) :
    Calls Try.prog 31 #[.agg #[.int .i64 x, .int .i64 y], .pointer (some ⟨q, 0, none⟩)] w fun e w' => e = .returned (.int .u16 (costI l W (x, y))) ∧ Ext w w' := by
  obtain ⟨m1, m2, m3, m4⟩ := mayB_true.1 hm
  obtain ⟨b, off, rfl, hb, hc⟩ := cost_cell hr hl h1 h2 h3 h4
  have ib := idx_bd h1 h2 h3 h4
  have ib2 : y * W + x < (l.length : Int) := by omega
  have wb := mul_bd (a := W) (b := H) (A := 256) (B := 256) (by omega) m2 (by omega) m4
  have k1 : IntKind.i64.wrap (y * W) = y * W := IntWalk.i64_in _ (by omega)
  have k2 : IntKind.i64.wrap (y * W + x) = y * W + x := IntWalk.i64_in _ (by omega)
  generalize costI l W (x, y) = v at *
  obtain ⟨n, hn⟩ : ∃ n, l.length = n := ⟨_, rfl⟩
  rw [hn] at ib2 c1
  clear hr hl hn
  go_enter Try.func31, Try.ntmps31
  go_wp2
  go_ret
  exact ⟨rfl, (by (with_reducible (repeat' (first | exact Ext.refl _ | assumption | refine Ext.drew ?_ | refine Ext.drewN ?_ _ | refine Ext.alloc ?_ _ | refine Ext.setCell ?_ ?_ _ | refine Ext.trans ?_ (by assumption)))); all_goals (first | (simp; done) | (simp; omega)))⟩

/-- Is a pair without walls? -/
def openP (l : List Int) (W : Int) (p : Cell × Cell) : Bool := decide (0 < costI l W p.1) && decide (0 < costI l W p.2)

theorem gtB2_any (W H : Int) (a : Option Addr) (l : List Int) (c q r : Nat) (p : Cell × Cell) (w : World) (hm : mayB W H = true) (hl : (l.length : Int) = W * H) (hr : Row16 w a l) (hq : q < w.heap.size) (hrr : r < w.heap.size)
    (c0 : w.cell? ⟨q, 0, none⟩ = some (.int .i64 W)) (c1 : w.cell? ⟨q, 2, none⟩ = some (.slice a l.length c)) (c2 : w.cell? ⟨r, 0, none⟩ = some (.func (.func 31) #[] #[.pointer (some ⟨q, 0, none⟩)]))
    (h1 : 0 ≤ p.1.1 ∧ p.1.1 < W ∧ 0 ≤ p.1.2 ∧ p.1.2 < H) (h2 : 0 ≤ p.2.1 ∧ p.2.1 < W ∧ 0 ≤ p.2.2 ∧ p.2.2 < H) :
    Calls Try.prog 33 #[.agg #[.int .i64 p.1.1, .int .i64 p.1.2, .int .i64 p.2.1, .int .i64 p.2.2], .pointer (some ⟨r, 0, none⟩)] w fun e w' => e = .returned (.bool (openP l W p)) ∧ Ext w w' := by
  obtain ⟨⟨ax, ay⟩, bx, bY⟩ := p
  simp only at h1 h2 ⊢
  have k1 : ∀ w', Ext w w' → Calls Try.prog 31 #[.agg #[.int .i64 ax, .int .i64 ay], .pointer (some ⟨q, 0, none⟩)] w' fun e w2 => e = .returned (.int .u16 (costI l W (ax, ay))) ∧ Ext w' w2 := fun w' hx =>
    gtB1_any W H a l c q ax ay w' hm hl (hr.ext hx) (Nat.lt_of_lt_of_le hq hx.size) ((hx.cell (p := ⟨q, 0, none⟩) hq).trans c0) ((hx.cell (p := ⟨q, 2, none⟩) hq).trans c1) h1.1 h1.2.1 h1.2.2.1 h1.2.2.2
  have k2 : ∀ w', Ext w w' → Calls Try.prog 31 #[.agg #[.int .i64 bx, .int .i64 bY], .pointer (some ⟨q, 0, none⟩)] w' fun e w2 => e = .returned (.int .u16 (costI l W (bx, bY))) ∧ Ext w' w2 := fun w' hx =>
    gtB1_any W H a l c q bx bY w' hm hl (hr.ext hx) (Nat.lt_of_lt_of_le hq hx.size) ((hx.cell (p := ⟨q, 0, none⟩) hq).trans c0) ((hx.cell (p := ⟨q, 2, none⟩) hq).trans c1) h2.1 h2.2.1 h2.2.2.1 h2.2.2.2
  have K1 := hide k1
  have K2 := hide k2
  unfold openP
  simp only
  generalize costI l W (ax, ay) = u at *
  generalize costI l W (bx, bY) = v at *
  clear k1 k2 hm hl hr c0 c1 h1 h2
  by_cases hu0 : 0 < u
  · go_enter Try.func33, Try.ntmps33
    go_wp2_with fail
    refine (K1.out _ (by (with_reducible (repeat' (first | exact Ext.refl _ | assumption | refine Ext.drew ?_ | refine Ext.drewN ?_ _ | refine Ext.alloc ?_ _ | refine Ext.setCell ?_ ?_ _ | refine Ext.trans ?_ (by assumption)))); all_goals (first | (simp; done) | (simp; omega)))).mono ?_
    rintro e w1 ⟨rfl, hb1⟩
    obtain ⟨hc1, hf1⟩ := hb1.cells; have hz1 := hb1.size; (repeat (first | rw [World.size_alloc] at hz1 | rw [World.size_drew] at hz1)); have z1_0 : r < w1.heap.size := (by omega); have z1_1 : w.heap.size < w1.heap.size := (by omega)
    go_wp2_with fail
    refine (K2.out _ (by (with_reducible (repeat' (first | exact Ext.refl _ | assumption | refine Ext.drew ?_ | refine Ext.drewN ?_ _ | refine Ext.alloc ?_ _ | refine Ext.setCell ?_ ?_ _ | refine Ext.trans ?_ (by assumption)))); all_goals (first | (simp; done) | (simp; omega)))).mono ?_
    rintro e w2 ⟨rfl, hb2⟩
    go_wp2
    go_ret
    exact ⟨by simp [hu0], (by (with_reducible (repeat' (first | exact Ext.refl _ | assumption | refine Ext.drew ?_ | refine Ext.drewN ?_ _ | refine Ext.alloc ?_ _ | refine Ext.setCell ?_ ?_ _ | refine Ext.trans ?_ (by assumption)))); all_goals (first | (simp; done) | (simp; omega)))⟩
  · go_enter Try.func33, Try.ntmps33
    go_wp2_with fail
    refine (K1.out _ (by (with_reducible (repeat' (first | exact Ext.refl _ | assumption | refine Ext.drew ?_ | refine Ext.drewN ?_ _ | refine Ext.alloc ?_ _ | refine Ext.setCell ?_ ?_ _ | refine Ext.trans ?_ (by assumption)))); all_goals (first | (simp; done) | (simp; omega)))).mono ?_
    rintro e w1 ⟨rfl, hb1⟩
    obtain ⟨hc1, hf1⟩ := hb1.cells; have hz1 := hb1.size; (repeat (first | rw [World.size_alloc] at hz1 | rw [World.size_drew] at hz1)); have z1_0 : r < w1.heap.size := (by omega); have z1_1 : w.heap.size < w1.heap.size := (by omega)
    go_wp2
    go_ret
    have hu1 : ¬ 0 < u := by omega
    exact ⟨by simp [hu1], (by (with_reducible (repeat' (first | exact Ext.refl _ | assumption | refine Ext.drew ?_ | refine Ext.drewN ?_ _ | refine Ext.alloc ?_ _ | refine Ext.setCell ?_ ?_ _ | refine Ext.trans ?_ (by assumption)))); all_goals (first | (simp; done) | (simp; omega)))⟩
end Go.Proofs.Ytkioohhjjdlhiaa
