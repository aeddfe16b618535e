/- What the laws on floods share: how far a cell is, as the laws ask. -/
import Derived.Test.YtkonojjillcfiaaLawFB
namespace Go.Proofs.Ytkonojjillcfiaa
open Go.RowKit

set_option maxRecDepth 100000 in
theorem at08_any {w : World} {W H : Int} {l : List Int} {bx byy bw bh : Int} (L : LandP W H l bx byy bw bh) (a : Option Addr) (c : Nat) {g cg base : Nat} {far : Nat → Int} (fa : FarAt w base g cg far l.length) (x y : Int) (hx : -1 ≤ x ∧ x ≤ 1000) (hy : -1 ≤ y ∧ y ≤ 1000) :
    Calls Try.prog 46 #[.agg #[.int .i64 W, .int .i64 H, .slice a l.length c], .agg #[.int .i64 bx, .int .i64 byy, .int .i64 bw, .int .i64 bh], .slice (some ⟨g, 0, none⟩) l.length cg, .agg #[.int .i64 x, .int .i64 y]] w fun e w' => e = .returned (.int .u64 (if hasB bx byy bw bh x y = true then far (idxN W (x, y)) else infI)) ∧ Ext w w' := by
  have wh := L.wh
  have ff := fitsR_true.1 L.fits
  have HH := hide (fun w' => rHas_any bx byy bw bh x y w' ff.1 ff.2.1 (by unfold InI; omega) (by unfold InI; omega))
  have m0 : -256 ≤ y * W ∧ y * W ≤ 256000 := by
    have h1 : y * W ≤ 1000 * W := Int.mul_le_mul_of_nonneg_right hy.2 (by omega)
    have h2 : -1 * W ≤ y * W := Int.mul_le_mul_of_nonneg_right hy.1 (by omega)
    omega
  have k1 : IntKind.i64.wrap (y * W) = y * W := IntWalk.i64_in _ (by omega)
  have k2 : IntKind.i64.wrap (y * W + x) = y * W + x := IntWalk.i64_in _ (by omega)
  obtain ⟨n, hn⟩ : ∃ n, l.length = n := ⟨_, rfl⟩
  cases hh : hasB bx byy bw bh x y
  · rw [hh] at HH
    rw [if_neg (by decide), hn]
    clear L fa hh hn ff
    go_enter Try.func46, Try.ntmps46
    go_wp2_with (go_at_call 41; refine (HH.out _).mono ?_; rintro e w1 ⟨rfl, hb1⟩; obtain ⟨hc1, hf1⟩ := hb1.cells; have hz1 := hb1.size; (repeat (first | rw [World.size_alloc] at hz1 | rw [World.size_drew] at hz1)); have z1_0 : w.heap.size < w1.heap.size := (by omega); have z1_1 : w.heap.size + 1 < w1.heap.size := (by omega); have z1_2 : w.heap.size + 2 < w1.heap.size := (by omega))
    go_ret
    exact ⟨rfl, (by (with_reducible (repeat' (first | exact Ext.refl _ | assumption | refine Ext.drew ?_ | refine Ext.drewN ?_ _ | refine Ext.alloc ?_ _ | refine Ext.setCell ?_ ?_ _ | refine Ext.trans ?_ (by assumption)))); all_goals (first | (simp; done) | (simp; omega)))⟩
  · rw [hh] at HH
    rw [if_pos rfl]
    have hin := L.in_ hh
    have hj := L.idx_lt hin
    have hji := idx_int (W := W) hin.1 (by omega) hin.2.2.1
    obtain ⟨j, hje⟩ : ∃ j, idxN W (x, y) = j := ⟨_, rfl⟩
    rw [hje] at hj hji ⊢
    have FC := (fa.cell hj).1
    have zg := fa.lt.2
    have k2' : IntKind.i64.wrap (y * W + x) = (j : Int) := k2.trans hji.symm
    obtain ⟨fj, hfj⟩ : ∃ z, far j = z := ⟨_, rfl⟩
    rw [hfj] at FC ⊢
    rw [hn] at hj ⊢
    have d0 : (j : Int) < (n : Int) := by omega
    have d1 : decide ((n : Int) ≤ (j : Int)) = false := by simp; omega
    have d3 : decide (n ≤ j) = false := by simp; omega
    clear L fa hh hn ff hfj hje hji k2 hin m0
    go_enter Try.func46, Try.ntmps46
    go_wp2_with (go_at_call 41; refine (HH.out _).mono ?_; rintro e w1 ⟨rfl, hb1⟩; obtain ⟨hc1, hf1⟩ := hb1.cells; have hz1 := hb1.size; (repeat (first | rw [World.size_alloc] at hz1 | rw [World.size_drew] at hz1)); have z1_0 : w.heap.size < w1.heap.size := (by omega); have z1_1 : w.heap.size + 1 < w1.heap.size := (by omega); have z1_2 : w.heap.size + 2 < w1.heap.size := (by omega); have hxx : Ext w w1 := (by (with_reducible (repeat' (first | exact Ext.refl _ | assumption | refine Ext.drew ?_ | refine Ext.drewN ?_ _ | refine Ext.alloc ?_ _ | refine Ext.setCell ?_ ?_ _ | refine Ext.trans ?_ (by assumption)))); all_goals (first | (simp; done) | (simp; omega))); have y9 := (hxx.cell (p := ⟨g, j, none⟩) zg).trans FC; have zg1 : g < w1.heap.size := Nat.lt_of_lt_of_le zg hxx.size)
    go_ret
    exact ⟨rfl, (by (with_reducible (repeat' (first | exact Ext.refl _ | assumption | refine Ext.drew ?_ | refine Ext.drewN ?_ _ | refine Ext.alloc ?_ _ | refine Ext.setCell ?_ ?_ _ | refine Ext.trans ?_ (by assumption)))); all_goals (first | (simp; done) | (simp; omega)))⟩
end Go.Proofs.Ytkonojjillcfiaa
