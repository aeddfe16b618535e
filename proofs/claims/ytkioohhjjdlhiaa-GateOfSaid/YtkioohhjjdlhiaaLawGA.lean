/- Walks of the small functions beside the statements on gates. -/
import Derived.Test.YtkioohhjjdlhiaaRefG
set_option linter.all false
set_option linter.unusedVariables false
set_option linter.unusedSimpArgs false
namespace Go.Proofs.Ytkioohhjjdlhiaa
open Go.RowKit

theorem small12_any (W H : Int) (a : Option Addr) (n c : Nat) (w : World) : Calls Try.prog 4 #[.agg #[.int .i64 W, .int .i64 H, .slice a n c]] w fun e w' => e = .returned (.bool (decide ((n : Int) ≤ 260))) ∧ Ext w w' := by
  go_enter Try.func4, Try.ntmps4
  go_wp2
  go_ret
  exact ⟨rfl, (by (with_reducible (repeat' (first | exact Ext.refl _ | assumption | refine Ext.drew ?_ | refine Ext.drewN ?_ _ | refine Ext.alloc ?_ _ | refine Ext.setCell ?_ ?_ _ | refine Ext.trans ?_ (by assumption)))); all_goals (first | (simp; done) | (simp; omega)))⟩

def mayE (W H pW pH s : Int) (n : Nat) : Int := if checkE W H n = 0 then (if pW = W ∧ pH = H ∧ rightB pW pH s = true then 0 else 1) else checkE W H n

theorem may12_any (W H : Int) (a : Option Addr) (n c : Nat) (pW pH s : Int) (w : World) :
    Calls Try.prog 7 #[.agg #[.int .i64 W, .int .i64 H, .slice a n c], .agg #[.int .i64 pW, .int .i64 pH, .int .i64 s]] w fun e w' => e = .returned (.int .i64 (mayE W H pW pH s n)) ∧ Ext w w' := by
  have hq := fun w => eq_size pW pH W H w
  by_cases h0 : checkE W H n = 0
  · have h0' : (checkE W H n == 0) = true := by simpa using h0
    by_cases he : pW = W ∧ pH = H
    · have q : (pW == W && pH == H) = true := by simpa using he
      cases hr : rightB pW pH s
      · have e0 : mayE W H pW pH s n = 1 := by simp [mayE, h0, hr]
        rw [e0]
        clear e0 h0 he
        go_enter Try.func7, Try.ntmps7
        go_wp2_with (first
          | (go_at_call 19; refine (r04Check_any _ _ _ _ _ _).mono ?_; rintro e w1 ⟨rfl, hb1⟩; obtain ⟨hc1, hf1⟩ := hb1.cells; have hz1 := hb1.size; (repeat (first | rw [World.size_alloc] at hz1 | rw [World.size_drew] at hz1)); have z1_0 : w.heap.size < w1.heap.size := (by omega); have z1_1 : w.heap.size + 1 < w1.heap.size := (by omega))
          | (go_at_call 20; refine (rRight_any _ _ _ _).mono ?_; rintro e w2 ⟨rfl, hb2⟩; rw [hr]; obtain ⟨hc2, hf2⟩ := hb2.cells; have hz2 := hb2.size; (repeat (first | rw [World.size_alloc] at hz2 | rw [World.size_drew] at hz2)); have z2_0 : w.heap.size < w2.heap.size := (by omega)))
        go_ret
        exact ⟨rfl, (by (with_reducible (repeat' (first | exact Ext.refl _ | assumption | refine Ext.drew ?_ | refine Ext.drewN ?_ _ | refine Ext.alloc ?_ _ | refine Ext.setCell ?_ ?_ _ | refine Ext.trans ?_ (by assumption)))); all_goals (first | (simp; done) | (simp; omega)))⟩
      · have e0 : mayE W H pW pH s n = 0 := by simp only [mayE, h0, if_true, if_pos (show pW = W ∧ pH = H ∧ rightB pW pH s = true from ⟨he.1, he.2, hr⟩)]
        rw [e0]
        rw [h0] at h0'
        have hc0 := h0
        clear e0 h0 he
        go_enter Try.func7, Try.ntmps7
        go_wp2_with (first
          | (go_at_call 19; refine (r04Check_any _ _ _ _ _ _).mono ?_; rintro e w1 ⟨rfl, hb1⟩; obtain ⟨hc1, hf1⟩ := hb1.cells; have hz1 := hb1.size; (repeat (first | rw [World.size_alloc] at hz1 | rw [World.size_drew] at hz1)); have z1_0 : w.heap.size < w1.heap.size := (by omega); have z1_1 : w.heap.size + 1 < w1.heap.size := (by omega))
          | (go_at_call 20; refine (rRight_any _ _ _ _).mono ?_; rintro e w2 ⟨rfl, hb2⟩; rw [hr]; obtain ⟨hc2, hf2⟩ := hb2.cells; have hz2 := hb2.size; (repeat (first | rw [World.size_alloc] at hz2 | rw [World.size_drew] at hz2)); have z2_0 : w.heap.size < w2.heap.size := (by omega)))
        go_ret
        exact ⟨rfl, (by (with_reducible (repeat' (first | exact Ext.refl _ | assumption | refine Ext.drew ?_ | refine Ext.drewN ?_ _ | refine Ext.alloc ?_ _ | refine Ext.setCell ?_ ?_ _ | refine Ext.trans ?_ (by assumption)))); all_goals (first | (simp; done) | (simp; omega)))⟩
    · have q : (pW == W && pH == H) = false := by simpa using he
      have e0 : mayE W H pW pH s n = 1 := by
        have : ¬ (pW = W ∧ pH = H ∧ rightB pW pH s = true) := fun h => he ⟨h.1, h.2.1⟩
        simp only [mayE, h0, if_true, if_neg this]
      rw [e0]
      clear e0 h0 he
      go_enter Try.func7, Try.ntmps7
      go_wp2_with (go_at_call 19; refine (r04Check_any _ _ _ _ _ _).mono ?_; rintro e w1 ⟨rfl, hb1⟩; obtain ⟨hc1, hf1⟩ := hb1.cells; have hz1 := hb1.size; (repeat (first | rw [World.size_alloc] at hz1 | rw [World.size_drew] at hz1)); have z1_0 : w.heap.size < w1.heap.size := (by omega); have z1_1 : w.heap.size + 1 < w1.heap.size := (by omega))
      go_ret
      exact ⟨rfl, (by (with_reducible (repeat' (first | exact Ext.refl _ | assumption | refine Ext.drew ?_ | refine Ext.drewN ?_ _ | refine Ext.alloc ?_ _ | refine Ext.setCell ?_ ?_ _ | refine Ext.trans ?_ (by assumption)))); all_goals (first | (simp; done) | (simp; omega)))⟩
  · have h0' : (checkE W H n == 0) = false := by simpa using h0
    have e0 : mayE W H pW pH s n = checkE W H n := by simp [mayE, h0]
    rw [e0]
    clear e0 h0 hq
    go_enter Try.func7, Try.ntmps7
    go_wp2_with (go_at_call 19; refine (r04Check_any _ _ _ _ _ _).mono ?_; rintro e w1 ⟨rfl, hb1⟩; obtain ⟨hc1, hf1⟩ := hb1.cells; have hz1 := hb1.size; (repeat (first | rw [World.size_alloc] at hz1 | rw [World.size_drew] at hz1)); have z1_0 : w.heap.size < w1.heap.size := (by omega); have z1_1 : w.heap.size + 1 < w1.heap.size := (by omega))
    go_ret
    exact ⟨rfl, (by (with_reducible (repeat' (first | exact Ext.refl _ | assumption | refine Ext.drew ?_ | refine Ext.drewN ?_ _ | refine Ext.alloc ?_ _ | refine Ext.setCell ?_ ?_ _ | refine Ext.trans ?_ (by assumption)))); all_goals (first | (simp; done) | (simp; omega)))⟩

theorem same12_zero (a b : Option Addr) (c d : Nat) (w : World) : Calls Try.prog 9 #[.slice a 0 c, .slice b 0 d] w fun e w' => e = .returned (.bool true) ∧ Ext w w' := by
  go_enter Try.func9, Try.ntmps9
  go_wp2
  go_loopw [5] (fun i wr => i = .int .i64 0 ∧ Ext w wr) (fun _ _ => 0)
  case atStart => exact ⟨rfl, (by (with_reducible (repeat' (first | exact Ext.refl _ | assumption | refine Ext.drew ?_ | refine Ext.drewN ?_ _ | refine Ext.alloc ?_ _ | refine Ext.setCell ?_ ?_ _ | refine Ext.trans ?_ (by assumption)))); all_goals (first | (simp; done) | (simp; omega)))⟩
  case round =>
    obtain ⟨rfl, hext⟩ := hrel
    go_wp2
    go_ret
    exact ⟨rfl, (by (with_reducible (repeat' (first | exact Ext.refl _ | assumption | refine Ext.drew ?_ | refine Ext.drewN ?_ _ | refine Ext.alloc ?_ _ | refine Ext.setCell ?_ ?_ _ | refine Ext.trans ?_ (by assumption)))); all_goals (first | (simp; done) | (simp; omega)))⟩

set_option maxHeartbeats 400000 in
theorem same12_rows (b off c b' off' c' : Nat) (l : List (Cell × Cell)) (w : World) (hl : l.length ≤ 1000000) (hb : b < w.heap.size) (hb' : b' < w.heap.size) (h1 : PairsAt w b off l) (h2 : PairsAt w b' off' l) :
    Calls Try.prog 9 #[.slice (some ⟨b, off, none⟩) l.length c, .slice (some ⟨b', off', none⟩) l.length c'] w fun e w' => e = .returned (.bool true) ∧ Ext w w' := by
  have H1 := hide h1
  have H2 := hide h2
  clear h1 h2
  go_enter Try.func9, Try.ntmps9
  go_wp2
  go_loopw [5] (fun i wr => ∃ k : Nat, k ≤ l.length ∧ i = .int .i64 k ∧ Ext w wr) (fun i _ => l.length - (intOf i).toNat)
  case atStart => exact ⟨0, Nat.zero_le _, rfl, (by (with_reducible (repeat' (first | exact Ext.refl _ | assumption | refine Ext.drew ?_ | refine Ext.drewN ?_ _ | refine Ext.alloc ?_ _ | refine Ext.setCell ?_ ?_ _ | refine Ext.trans ?_ (by assumption)))); all_goals (first | (simp; done) | (simp; omega)))⟩
  case round =>
    obtain ⟨k, hk, rfl, hext⟩ := hrel
    by_cases hlt : k < l.length
    · obtain ⟨d1, d2, d3, d4⟩ := (H1.out.ext hb hext) k hlt
      obtain ⟨e1, e2, e3, e4⟩ := (H2.out.ext hb' hext) k hlt
      generalize l[k] = p at *
      have hq1 : ∀ w, (Op.equalIn 10000 52 (.agg #[.int .i64 p.1.1, .int .i64 p.1.2]) (.agg #[.int .i64 p.1.1, .int .i64 p.1.2])).run Try.prog w = .ok true w := fun w => by rw [eq_cell p.1 p.1 w]; simp [cellB]
      have hq2 : ∀ w, (Op.equalIn 10000 52 (.agg #[.int .i64 p.2.1, .int .i64 p.2.2]) (.agg #[.int .i64 p.2.1, .int .i64 p.2.2])).run Try.prog w = .ok true w := fun w => by rw [eq_cell p.2 p.2 w]; simp [cellB]
      go_wp2
      go_quiet (fail)
      go_wp2
      go_roundw
      case rel => exact ⟨k + 1, by omega, by go_num, (by (with_reducible (repeat' (first | exact Ext.refl _ | assumption | refine Ext.drew ?_ | refine Ext.drewN ?_ _ | refine Ext.alloc ?_ _ | refine Ext.setCell ?_ ?_ _ | refine Ext.trans ?_ (by assumption)))); all_goals (first | (simp; done) | (simp; omega)))⟩
      case measure => simp [intOf]; omega
    · go_wp2
      go_ret
      exact ⟨rfl, (by (with_reducible (repeat' (first | exact Ext.refl _ | assumption | refine Ext.drew ?_ | refine Ext.drewN ?_ _ | refine Ext.alloc ?_ _ | refine Ext.setCell ?_ ?_ _ | refine Ext.trans ?_ (by assumption)))); all_goals (first | (simp; done) | (simp; omega)))⟩

theorem same12_any (va vb : Value) (l : List (Cell × Cell)) (w : World) (hl : l.length ≤ 1000000) (ha : Reads pairE w va l) (hb : Reads pairE w vb l) :
    Calls Try.prog 9 #[va, vb] w fun e w' => e = .returned (.bool true) ∧ Ext w w' := by
  by_cases h0 : l.length = 0
  · obtain ⟨a, c, rfl⟩ := ha.slice
    obtain ⟨b, d, rfl⟩ := hb.slice
    rw [h0]
    exact same12_zero a b c d w
  · rcases ha with ⟨rfl, rfl⟩ | ⟨b, off, c, rfl, hb1, hc⟩
    · simp at h0
    · rcases hb with ⟨rfl, rfl⟩ | ⟨b', off', c', rfl, hb2, hc'⟩
      · simp at h0
      · have i1 := (Reads.pairs (.inr ⟨b, off, c, rfl, hb1, hc⟩ : Reads pairE w (.slice (some ⟨b, off, none⟩) l.length c) l)).2
        have i2 := (Reads.pairs (.inr ⟨b', off', c', rfl, hb2, hc'⟩ : Reads pairE w (.slice (some ⟨b', off', none⟩) l.length c') l)).2
        exact same12_rows b off c b' off' c' l w hl hb1 hb2 i1 i2
end Go.Proofs.Ytkioohhjjdlhiaa
