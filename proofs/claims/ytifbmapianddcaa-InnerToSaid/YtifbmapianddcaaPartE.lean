/- The walk of part's Border. -/
import Derived.Test.YtifbmapianddcaaPartD
import Derived.Test.YtifbmapianddcaaEq
namespace Go.Proofs.Ytifbmapianddcaa
open Go.RowKit

def cellE : Enc Cell := ⟨2, fun c => [.int .i64 c.1, .int .i64 c.2], fun _ => rfl, fun _ u hu => by simp at hu; rcases hu with rfl | rfl <;> rfl⟩
def pairE : Enc (Cell × Cell) := ⟨4, fun p => [.int .i64 p.1.1, .int .i64 p.1.2, .int .i64 p.2.1, .int .i64 p.2.2], fun _ => rfl, fun _ u hu => by simp at hu; rcases hu with rfl | rfl | rfl | rfl <;> rfl⟩

theorem T_pairs : ElemT Try.prog 203 208 (.agg #[.int .i64 0, .int .i64 0, .int .i64 0, .int .i64 0]) 4 32 := ⟨Try.underlying203, by kernel_rfl, rfl, by decide⟩

def RetPairs (w : World) (L : List (Cell × Cell)) (err : Int) (e : Ending) (w' : World) : Prop := ∃ v, e = .returned (.tuple #[v, .int .i64 err]) ∧ Ext w w' ∧ Own pairE w' w.heap.size 208 v L

def sideL (X2 Y1 : Int) (n : Nat) : List (Cell × Cell) := (List.range n).map fun i : Nat => ((X2 - 1, Y1 + (i : Int)), (X2, Y1 + (i : Int)))
def lowL (X1 Y2 : Int) (n : Nat) : List (Cell × Cell) := (List.range n).map fun i : Nat => ((X1 + (i : Int), Y2 - 1), (X1 + (i : Int), Y2))

def boxW (W s id : Int) : Int := min s (W - boxX W s id)
def boxH (W H s id : Int) : Int := min s (H - boxY W s id)

/-- The pairs along the border of two clusters side by side, the first one's number less. -/
def borderL (W H s a b : Int) : List (Cell × Cell) :=
  if boxY W s a = boxY W s b then sideL (boxX W s b) (boxY W s a) (boxH W H s a).toNat else lowL (boxX W s a) (boxY W s b) (boxW W s a).toNat

theorem Border_err (W H s a b : Int) (w : World) (hr : (hasE W H s [a, b] != 0) = true) :
    Calls Try.prog 135 #[.agg #[.int .i64 W, .int .i64 H, .int .i64 s], .int .i64 a, .int .i64 b] w fun e w' => e = .returned (.tuple #[.slice none 0 0, .int .i64 (hasE W H s [a, b])]) ∧ Ext w w' := by
  go_enter Try.func135, Try.ntmps135
  go_wp2_with (first
    | (go_at_call 141; refine (has_any W H s _ 0 _ [a, b] _ (by simp) (by simp) (by exact two_at _ _ _ _ _ (by simp))).mono ?_; rintro e w1 ⟨rfl, hb1⟩; obtain ⟨hc1, hf1⟩ := hb1.cells; have hz1 := hb1.size; (repeat (first | rw [World.size_alloc] at hz1 | rw [World.size_drew] at hz1)); have z1_0 : w.heap.size < w1.heap.size := (by omega)))
  go_ret2
  exact ⟨rfl, (by (with_reducible (repeat' (first | exact Ext.refl _ | assumption | refine Ext.drew ?_ | refine Ext.drewN ?_ _ | refine Ext.alloc ?_ _ | refine Ext.setCell ?_ ?_ _ | refine Ext.trans ?_ (by assumption)))); all_goals (first | (simp; done) | (simp; omega)))⟩

theorem besideL_len (W H s id : Int) : (besideL W H s id).length ≤ 4 := by
  have h1 := opt_len (decide (acr W s ≤ id)) (id - acr W s)
  have h2 := opt_len (decide (id % acr W s < acr W s - 1)) (id + 1)
  have h3 := opt_len (decide (id + acr W s < cnt W H s)) (id + acr W s)
  have h4 := opt_len (decide (0 < id % acr W s)) (id - 1)
  simp only [besideL, List.length_append]; omega

set_option maxRecDepth 100000 in
set_option maxHeartbeats 1000000 in
theorem Border_arg (W H s a b : Int) (w : World) (hr : rightB W H s = true) (h0 : 0 ≤ a) (ha : a < cnt W H s) (h1 : 0 ≤ b) (hb : b < cnt W H s) (hn : hasI (besideL W H s (min a b)) (max a b) = false) :
    Calls Try.prog 135 #[.agg #[.int .i64 W, .int .i64 H, .int .i64 s], .int .i64 a, .int .i64 b] w fun e w' => e = .returned (.tuple #[.slice none 0 0, .int .i64 1]) ∧ Ext w w' := by
  have hany : [a, b].any (bad W H s) = false := by simp [bad_false h0 ha, bad_false h1 hb]
  go_enter Try.func135, Try.ntmps135
  go_upto_region 4 with (first
    | (go_at_call 141; refine (has_ok W H s _ 0 _ [a, b] _ hr hany (by simp) (by simp) (by exact two_at _ _ _ _ _ (by simp))).mono ?_; rintro e w1 ⟨rfl, hb1⟩; obtain ⟨hc1, hf1⟩ := hb1.cells; have hz1 := hb1.size; (repeat (first | rw [World.size_alloc] at hz1 | rw [World.size_drew] at hz1)); have z1_0 : w.heap.size < w1.heap.size := (by omega)))
  have hx1 : Ext w w1 := (by (with_reducible (repeat' (first | exact Ext.refl _ | assumption | refine Ext.drew ?_ | refine Ext.drewN ?_ _ | refine Ext.alloc ?_ _ | refine Ext.setCell ?_ ?_ _ | refine Ext.trans ?_ (by assumption)))); all_goals (first | (simp; done) | (simp; omega)))
  go_cut [1, 2] (fun s1 s2 wx => s1 = .int .i64 (min a b) ∧ s2 = .int .i64 (max a b) ∧ w1 = wx)
  case first =>
    go_wp2
    all_goals go_meet
    all_goals exact ⟨by congr 1; omega, by congr 1; omega, rfl⟩
  case rest =>
    obtain ⟨rfl, rfl, rfl⟩ := hcut
    have l0 : 0 ≤ min a b := by omega
    have l1 : min a b < cnt W H s := by omega
    generalize min a b = lo at *
    generalize max a b = hi at *
    have hlen := besideL_len W H s lo
    go_wp2_with (first
      | (go_at_call 100; refine (Beside_yes W H s lo _ hr l0 l1).mono ?_; rintro e w2 ⟨v, rfl, hb2, hv⟩; have HV := hide hv; clear hv; obtain ⟨hc2, hf2⟩ := hb2.cells; have hz2 := hb2.size; (repeat (first | rw [World.size_alloc] at hz2 | rw [World.size_drew] at hz2)); have z2_0 : w.heap.size < w2.heap.size := (by omega))
      | (go_at_call 165; refine (contains_any hi _ (besideL W H s lo) _ (by omega) HV.out.reads).mono ?_; rintro e w3 ⟨rfl, hb3⟩; obtain ⟨hc3, hf3⟩ := hb3.cells; have hz3 := hb3.size; (repeat (first | rw [World.size_alloc] at hz3 | rw [World.size_drew] at hz3))))
    go_ret2
    exact ⟨rfl, (by (with_reducible (repeat' (first | exact Ext.refl _ | assumption | refine Ext.drew ?_ | refine Ext.drewN ?_ _ | refine Ext.alloc ?_ _ | refine Ext.setCell ?_ ?_ _ | refine Ext.trans ?_ (by assumption)))); all_goals (first | (simp; done) | (simp; omega)))⟩

end Go.Proofs.Ytifbmapianddcaa
