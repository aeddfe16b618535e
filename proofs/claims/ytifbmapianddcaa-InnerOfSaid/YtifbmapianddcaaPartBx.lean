/- The walk of part's Box. -/
import Derived.Test.YtifbmapianddcaaPartB
namespace Go.Proofs.Ytifbmapianddcaa
open Go.RowKit

theorem Box_no (W H s id : Int) (w : World) (hr : (hasE W H s [id] != 0) = true) :
    Calls Try.prog 102 #[.agg #[.int .i64 W, .int .i64 H, .int .i64 s], .int .i64 id] w fun e w' => e = .returned (.tuple #[.agg #[.int .i64 0, .int .i64 0, .int .i64 0, .int .i64 0], .int .i64 (hasE W H s [id])]) ∧ Ext w w' := by
  go_enter Try.func102, Try.ntmps102
  go_wp2_with (first
    | (go_at_call 141; refine (has_any W H s _ 0 _ [id] _ (by simp) (by simp) (by exact one_at _ _ _ _ (by simp))).mono ?_; rintro e w1 ⟨rfl, hb1⟩; obtain ⟨hc1, hf1⟩ := hb1.cells; have hz1 := hb1.size; (repeat (first | rw [World.size_alloc] at hz1 | rw [World.size_drew] at hz1)); have z1_0 : w.heap.size < w1.heap.size := (by omega); have z1_1 : w.heap.size + 1 < w1.heap.size := (by omega)))
  exact bodyPost_ret (v := .tuple #[.agg #[.int .i64 0, .int .i64 0, .int .i64 0, .int .i64 0], .int .i64 (hasE W H s [id])]) (by simp [results, Try.results102, go_sem, *]) rfl ⟨rfl, (by (with_reducible (repeat' (first | exact Ext.refl _ | assumption | refine Ext.drew ?_ | refine Ext.drewN ?_ _ | refine Ext.alloc ?_ _ | refine Ext.setCell ?_ ?_ _ | refine Ext.trans ?_ (by assumption)))); all_goals (first | (simp; done) | (simp; omega)))⟩

theorem Box_yes (W H s id : Int) (w : World) (hr : rightB W H s = true) (h0 : 0 ≤ id) (hid : id < cnt W H s) :
    Calls Try.prog 102 #[.agg #[.int .i64 W, .int .i64 H, .int .i64 s], .int .i64 id] w fun e w' =>
      e = .returned (.tuple #[.agg #[.int .i64 (boxX W s id), .int .i64 (boxY W s id), .int .i64 (min s (W - boxX W s id)), .int .i64 (min s (H - boxY W s id))], .int .i64 0]) ∧ Ext w w' := by
  have hbad := bad_false h0 hid
  have hany : [id].any (bad W H s) = false := by simp [hbad]
  generalize hB : min s (W - boxX W s id) = B at *
  generalize hC : min s (H - boxY W s id) = C at *
  have HB := hide hB
  have HC := hide hC
  clear hB hC
  go_enter Try.func102, Try.ntmps102
  go_wp2_with (first
    | (go_at_call 141; refine (has_ok W H s _ 0 _ [id] _ hr hany (by simp) (by simp) (by exact one_at _ _ _ _ (by simp))).mono ?_; rintro e w1 ⟨rfl, hb1⟩; obtain ⟨hc1, hf1⟩ := hb1.cells; have hz1 := hb1.size; (repeat (first | rw [World.size_alloc] at hz1 | rw [World.size_drew] at hz1)); have z1_0 : w.heap.size < w1.heap.size := (by omega); have z1_1 : w.heap.size + 1 < w1.heap.size := (by omega))
    | (go_at_call 145; refine (box_yes W H s id _ hr h0 hid).mono ?_; rintro e w2 ⟨rfl, hb2⟩; obtain ⟨hc2, hf2⟩ := hb2.cells; have hz2 := hb2.size; (repeat (first | rw [World.size_alloc] at hz2 | rw [World.size_drew] at hz2)); have z2_0 : w.heap.size < w2.heap.size := (by omega); have z2_1 : w.heap.size + 1 < w2.heap.size := (by omega)))
  rw [HB.out, HC.out]
  exact bodyPost_ret (v := .tuple #[.agg #[.int .i64 (boxX W s id), .int .i64 (boxY W s id), .int .i64 B, .int .i64 C], .int .i64 0]) (by simp [results, Try.results102, go_sem, *]) rfl ⟨rfl, (by (with_reducible (repeat' (first | exact Ext.refl _ | assumption | refine Ext.drew ?_ | refine Ext.drewN ?_ _ | refine Ext.alloc ?_ _ | refine Ext.setCell ?_ ?_ _ | refine Ext.trans ?_ (by assumption)))); all_goals (first | (simp; done) | (simp; omega)))⟩
end Go.Proofs.Ytifbmapianddcaa
