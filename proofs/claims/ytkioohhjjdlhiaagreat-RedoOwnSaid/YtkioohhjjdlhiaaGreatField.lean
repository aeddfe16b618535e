/- Fields: a map of costs by value; grid's Check, the references' Check and Cost. -/
import Derived.Test.YtkioohhjjdlhiaaGreatGeom
import Derived.Test.YtkioohhjjdlhiaaGreatLib
import Derived.Test.YtkioohhjjdlhiaaGreatPartB
set_option linter.all false
set_option linter.unusedVariables false
set_option linter.unusedSimpArgs false
namespace Go.Proofs.YtkioohhjjdlhiaaGreat
open Go.RowKit

/-- The numbers that a slice value reads, if there are any. -/
def Row16 (w : World) (a : Option Addr) (l : List Int) : Prop := 0 < l.length → ∃ b off, a = some ⟨b, off, none⟩ ∧ b < w.heap.size ∧ ∀ k (h : k < l.length), w.cell? ⟨b, off + k, none⟩ = some (.int .u16 l[k])
theorem Row16.ext {w w' : World} {a : Option Addr} {l : List Int} (h : Row16 w a l) (e : Ext w w') : Row16 w' a l := fun h0 => by
 obtain ⟨b, off, ha, hb, hc⟩ := h h0
 exact ⟨b, off, ha, Nat.lt_of_lt_of_le hb e.size, fun k hk => (e.cell (p := ⟨b, off + k, none⟩) hb).trans (hc k hk)⟩
def U16s (l : List Int) : Prop := ∀ x ∈ l, 0 ≤ x ∧ x ≤ 65535

def checkE (W H : Int) (n : Nat) : Int := if mayB W H = true then (if (n : Int) = W * H then 0 else 12) else 10
theorem checkE_ok {W H : Int} {n : Nat} : checkE W H n = 0 ↔ mayB W H = true ∧ (n : Int) = W * H := by
 unfold checkE
 split
 ·split <;> simp [*]
 ·simp [*]

theorem gCheck_any (W H : Int) (a : Option Addr) (n c : Nat) (w : World) :
  Calls Tryz.prog 55 #[.agg #[.int .i64 W, .int .i64 H, .slice a n c]] w fun e w' => e = .returned (.int .i64 (checkE W H n)) ∧ Ext w w' := by
 cases hm : mayB W H
 ·have e0 : checkE W H n = 10 := by simp [checkE, hm]
  rw [e0]; clear e0
  go_enter Tryz.func55, Tryz.ntmps55
  go_wp2_with (go_at_call 109; refine (may_any _ _ _).mono ?_; rintro e w1 ⟨rfl, hb1⟩; obtain ⟨hc1, hf1⟩ := hb1.cells; have hz1 := hb1.size; (repeat (first | rw [World.size_alloc] at hz1 | rw [World.size_drew] at hz1)); have z1_0 : w.heap.size < w1.heap.size := (by omega))
  go_ret
  exact ⟨rfl, (by (with_reducible (repeat' (first | exact z_r _ | assumption | refine z_d ?_ | refine z_n ?_ _ | refine z_a ?_ _ | refine z_s ?_ ?_ _ | refine z_t ?_ (by assumption)))); all_goals (simp <;> omega))⟩
 ·obtain ⟨h1, h2, h3, h4⟩ := mayB_true.1 hm
  have hb := mul_bd (a := W) (b := H) (A := 256) (B := 256) (by omega) h2 (by omega) h4
  have k1 : IntKind.i64.wrap (W * H) = W * H := IntWalk.i64_in _ (by omega)
  by_cases hl : (n : Int) = W * H
  ·have e0 : checkE W H n = 0 := by simp [checkE, hm, hl]
   rw [e0]; clear e0
   have hl' : ((n : Int) != W * H) = false := by simpa using hl
   clear hl
   go_enter Tryz.func55, Tryz.ntmps55
   go_wp2_with (go_at_call 109; refine (may_any _ _ _).mono ?_; rintro e w1 ⟨rfl, hb1⟩; obtain ⟨hc1, hf1⟩ := hb1.cells; have hz1 := hb1.size; (repeat (first | rw [World.size_alloc] at hz1 | rw [World.size_drew] at hz1)); have z1_0 : w.heap.size < w1.heap.size := (by omega))
   go_ret
   exact ⟨rfl, (by (with_reducible (repeat' (first | exact z_r _ | assumption | refine z_d ?_ | refine z_n ?_ _ | refine z_a ?_ _ | refine z_s ?_ ?_ _ | refine z_t ?_ (by assumption)))); all_goals (simp <;> omega))⟩
  ·have e0 : checkE W H n = 12 := by simp [checkE, hm, hl]
   rw [e0]; clear e0
   have hl' : ((n : Int) != W * H) = true := by simpa using hl
   clear hl
   go_enter Tryz.func55, Tryz.ntmps55
   go_wp2_with (go_at_call 109; refine (may_any _ _ _).mono ?_; rintro e w1 ⟨rfl, hb1⟩; obtain ⟨hc1, hf1⟩ := hb1.cells; have hz1 := hb1.size; (repeat (first | rw [World.size_alloc] at hz1 | rw [World.size_drew] at hz1)); have z1_0 : w.heap.size < w1.heap.size := (by omega))
   go_ret
   exact ⟨rfl, (by (with_reducible (repeat' (first | exact z_r _ | assumption | refine z_d ?_ | refine z_n ?_ _ | refine z_a ?_ _ | refine z_s ?_ ?_ _ | refine z_t ?_ (by assumption)))); all_goals (simp <;> omega))⟩

theorem r01May_any (W H : Int) (w : World) : Calls Tryz.prog 116 #[.agg #[.int .i64 W, .int .i64 H]] w fun e w' => e = .returned (.bool (mayB W H)) ∧ Ext w w' := by
 go_enter Tryz.func116, Tryz.ntmps116
 go_wp2
 all_goals go_ret
 all_goals exact ⟨by first | (simp [mayB, betw, *]; done) | (simp [mayB, betw]; omega) | (simp [mayB, betw, *]; omega), (by (with_reducible (repeat' (first | exact z_r _ | assumption | refine z_d ?_ | refine z_n ?_ _ | refine z_a ?_ _ | refine z_s ?_ ?_ _ | refine z_t ?_ (by assumption)))); all_goals (simp <;> omega))⟩

theorem r04Check_any (W H : Int) (a : Option Addr) (n c : Nat) (w : World) :
  Calls Tryz.prog 60 #[.agg #[.int .i64 W, .int .i64 H, .slice a n c]] w fun e w' => e = .returned (.int .i64 (checkE W H n)) ∧ Ext w w' := by
 cases hm : mayB W H
 ·have e0 : checkE W H n = 10 := by simp [checkE, hm]
  rw [e0]; clear e0
  go_enter Tryz.func60, Tryz.ntmps60
  go_wp2_with (go_at_call 116; refine (r01May_any _ _ _).mono ?_; rintro e w1 ⟨rfl, hb1⟩; obtain ⟨hc1, hf1⟩ := hb1.cells; have hz1 := hb1.size; (repeat (first | rw [World.size_alloc] at hz1 | rw [World.size_drew] at hz1)); have z1_0 : w.heap.size < w1.heap.size := (by omega))
  go_ret
  exact ⟨rfl, (by (with_reducible (repeat' (first | exact z_r _ | assumption | refine z_d ?_ | refine z_n ?_ _ | refine z_a ?_ _ | refine z_s ?_ ?_ _ | refine z_t ?_ (by assumption)))); all_goals (simp <;> omega))⟩
 ·obtain ⟨h1, h2, h3, h4⟩ := mayB_true.1 hm
  have hb := mul_bd (a := W) (b := H) (A := 256) (B := 256) (by omega) h2 (by omega) h4
  have k1 : IntKind.i64.wrap (W * H) = W * H := IntWalk.i64_in _ (by omega)
  by_cases hl : (n : Int) = W * H
  ·have e0 : checkE W H n = 0 := by simp [checkE, hm, hl]
   rw [e0]; clear e0
   have hl' : ((n : Int) != W * H) = false := by simpa using hl
   clear hl
   go_enter Tryz.func60, Tryz.ntmps60
   go_wp2_with (go_at_call 116; refine (r01May_any _ _ _).mono ?_; rintro e w1 ⟨rfl, hb1⟩; obtain ⟨hc1, hf1⟩ := hb1.cells; have hz1 := hb1.size; (repeat (first | rw [World.size_alloc] at hz1 | rw [World.size_drew] at hz1)); have z1_0 : w.heap.size < w1.heap.size := (by omega))
   go_ret
   exact ⟨rfl, (by (with_reducible (repeat' (first | exact z_r _ | assumption | refine z_d ?_ | refine z_n ?_ _ | refine z_a ?_ _ | refine z_s ?_ ?_ _ | refine z_t ?_ (by assumption)))); all_goals (simp <;> omega))⟩
  ·have e0 : checkE W H n = 12 := by simp [checkE, hm, hl]
   rw [e0]; clear e0
   have hl' : ((n : Int) != W * H) = true := by simpa using hl
   clear hl
   go_enter Tryz.func60, Tryz.ntmps60
   go_wp2_with (go_at_call 116; refine (r01May_any _ _ _).mono ?_; rintro e w1 ⟨rfl, hb1⟩; obtain ⟨hc1, hf1⟩ := hb1.cells; have hz1 := hb1.size; (repeat (first | rw [World.size_alloc] at hz1 | rw [World.size_drew] at hz1)); have z1_0 : w.heap.size < w1.heap.size := (by omega))
   go_ret
   exact ⟨rfl, (by (with_reducible (repeat' (first | exact z_r _ | assumption | refine z_d ?_ | refine z_n ?_ _ | refine z_a ?_ _ | refine z_s ?_ ?_ _ | refine z_t ?_ (by assumption)))); all_goals (simp <;> omega))⟩

theorem idx_bd {W H x y : Int} (h1 : 0 ≤ x) (h2 : x < W) (h3 : 0 ≤ y) (h4 : y < H) : 0 ≤ y * W ∧ 0 ≤ y * W + x ∧ y * W + x < W * H := by
 have a := Int.mul_nonneg h3 (show 0 ≤ W by omega)
 have b : y * W ≤ (H - 1) * W := Int.mul_le_mul_of_nonneg_right (by omega) (by omega)
 rw [Int.sub_mul, Int.mul_comm H] at b
 omega

/-- A cell's cost. -/
def costI (l : List Int) (W : Int) (p : Cell) : Int := l.getD (p.2 * W + p.1).toNat 0
theorem costI_bd {l : List Int} (h : U16s l) (W : Int) (p : Cell) : 0 ≤ costI l W p ∧ costI l W p ≤ 65535 := by
 unfold costI
 rw [List.getD_eq_getElem?_getD]
 cases hh : l[(p.2 * W + p.1).toNat]? with
 | none => simp
 | some x => exact h x (List.mem_of_getElem? hh)
theorem cost_cell {w : World} {a : Option Addr} {l : List Int} (h : Row16 w a l) {W H x y : Int} (hl : (l.length : Int) = W * H) (h1 : 0 ≤ x) (h2 : x < W) (h3 : 0 ≤ y) (h4 : y < H) :
  ∃ b off, a = some ⟨b, off, none⟩ ∧ b < w.heap.size ∧ w.cell? ⟨b, off + (y * W + x).toNat, none⟩ = some (.int .u16 (costI l W (x, y))) := by
 have hb := idx_bd h1 h2 h3 h4
 have hk : (y * W + x).toNat < l.length := by omega
 obtain ⟨b, off, ha, hlt, hc⟩ := h (by omega)
 refine ⟨b, off, ha, hlt, ?_⟩
 rw [hc _ hk]
 unfold costI
 simp [List.getD_eq_getElem?_getD, hk]

theorem rCost_any (W H : Int) (a : Option Addr) (l : List Int) (c : Nat) (x y : Int) (w : World) (hm : mayB W H = true) (hl : (l.length : Int) = W * H) (hr : Row16 w a l) (hu : U16s l) (h1 : 0 ≤ x) (h2 : x < W) (h3 : 0 ≤ y) (h4 : y < H) :
  Calls Tryz.prog 44 #[.agg #[.int .i64 W, .int .i64 H, .slice a l.length c], .agg #[.int .i64 x, .int .i64 y]] w fun e w' => e = .returned (.int .u64 (costI l W (x, y))) ∧ Ext w w' := by
 obtain ⟨m1, m2, m3, m4⟩ := mayB_true.1 hm
 obtain ⟨b, off, rfl, hb, hc⟩ := cost_cell hr hl h1 h2 h3 h4
 have cb := costI_bd hu W (x, y)
 have ib := idx_bd h1 h2 h3 h4
 have ib2 : y * W + x < (l.length : Int) := by omega
 have wb := mul_bd (a := W) (b := H) (A := 256) (B := 256) (by omega) m2 (by omega) m4
 have k1 : IntKind.i64.wrap (y * W) = y * W := IntWalk.i64_in _ (by omega)
 have k2 : IntKind.i64.wrap (y * W + x) = y * W + x := IntWalk.i64_in _ (by omega)
 generalize costI l W (x, y) = v at *
 obtain ⟨n, hn⟩ : ∃ n, l.length = n := ⟨_, rfl⟩
 rw [hn] at ib2 ⊢
 clear hr hl hn hu
 go_enter Tryz.func44, Tryz.ntmps44
 go_wp2
 go_ret
 exact ⟨rfl, (by (with_reducible (repeat' (first | exact z_r _ | assumption | refine z_d ?_ | refine z_n ?_ _ | refine z_a ?_ _ | refine z_s ?_ ?_ _ | refine z_t ?_ (by assumption)))); all_goals (simp <;> omega))⟩

theorem eq_size (a b c d : Int) (w : World) : (Op.equalIn 10000 23 (.agg #[.int .i64 a, .int .i64 b]) (.agg #[.int .i64 c, .int .i64 d])).run Tryz.prog w = .ok (a == c && b == d) w := by
 have u : Tryz.prog.underlying 23 = some (.struct (Tryz.prog.fieldsOf 23)) := by kernel_rfl
 have s : Tryz.prog.stoodInHeld 23 = false := by kernel_rfl
 rw [run_equalIn_struct w 9999 23 _ _ u s]
 cases h : a == c <;> cases h' : b == d <;> simp [go_sem, h, h']
end Go.Proofs.YtkioohhjjdlhiaaGreat
