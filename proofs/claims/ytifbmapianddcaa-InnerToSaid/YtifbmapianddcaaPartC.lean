/- Walks of part: Beside and its closure. -/
import Derived.Test.YtifbmapianddcaaPartB
namespace Go.Proofs.Ytifbmapianddcaa
open Go.RowKit

theorem T_ints : ElemT Try.prog 101 3 (.int .i64 0) 1 8 := ⟨Try.underlying101, by kernel_rfl, rfl, by decide⟩

/-- The state of a closure that appends numbers: the variable's block q, the row among the blocks behind it. -/
def Acc (w : World) (q : Nat) (l : List Int) : Prop := ∃ v, w.heap[q]? = some (.cells #[v] 101 (0, 0)) ∧ Own intE w (q + 1) 3 v l

theorem Acc.lt {w : World} {q : Nat} {l : List Int} (h : Acc w q l) : q < w.heap.size := lt_of_block h.choose_spec.1

theorem Acc.ext {w w' : World} {q : Nat} {l : List Int} (h : Acc w q l) (he : Ext w w') : Acc w' q l := by
  obtain ⟨v, hq, ho⟩ := h
  exact ⟨v, (he.block (lt_of_block hq)).trans hq, ho.ext he⟩

theorem beside1_yes (n : Int) (q : Nat) (l : List Int) (w : World) (h : Acc w q l) (hl : l.length ≤ 1000000) :
    Calls Try.prog 142 #[.bool true, .int .i64 n, .pointer (some ⟨q, 0, none⟩)] w fun e w' => e = .returned (.tuple #[]) ∧ Below q w w' ∧ Acc w' q (l ++ [n]) := by
  obtain ⟨v, hq, hown⟩ := h
  have hc := cell_of_one hq
  have hlt := lt_of_block hq
  have HO := hide hown
  have HQ := hide hq
  clear hown hq
  go_enter Try.func142, Try.ntmps142
  go_wp2_with (at_builtin; refine wpList_app intE T_ints rfl _ _ rfl (q + 1) _ _ l rfl HO.out n _ _ rfl _ rfl rfl (by omega) (by omega) (by omega) ?_; intro g c w' hown' hbel; have hc' := (hbel.cell (p := ⟨q, 0, none⟩) (by simp)).trans hc; have hq' := (hbel.block q (by omega)).trans HQ.out; have hf' := free_of_one hq'; have HO' := hide hown'; have HQ' := hide hq'; clear hown' hq')
  go_end0
  refine ⟨rfl, (Below.mono hbel (by omega)).setCell (by simp) _, _, one_setCell HQ'.out, HO'.out.setCell (by simp) _⟩

theorem beside1_no (n : Int) (q : Nat) (w : World) :
    Calls Try.prog 142 #[.bool false, .int .i64 n, .pointer (some ⟨q, 0, none⟩)] w fun e w' => e = .returned (.tuple #[]) ∧ w = w' := by
  go_enter Try.func142, Try.ntmps142
  go_wp2
  go_end0
  exact ⟨rfl, rfl⟩

def opt (b : Bool) (n : Int) : List Int := if b then [n] else []
theorem opt_len (b : Bool) (n : Int) : (opt b n).length ≤ 1 := by cases b <;> simp [opt]

theorem beside1_any (b : Bool) (n : Int) (q : Nat) (l : List Int) (w : World) (h : Acc w q l) (hl : l.length ≤ 1000000) :
    Calls Try.prog 142 #[.bool b, .int .i64 n, .pointer (some ⟨q, 0, none⟩)] w fun e w' => e = .returned (.tuple #[]) ∧ Below q w w' ∧ Acc w' q (l ++ opt b n) := by
  cases b
  · exact (beside1_no n q w).mono fun e w' ⟨he, hw⟩ => by subst hw; exact ⟨he, Below.refl _ _, by simpa [opt] using h⟩
  · exact (beside1_yes n q l w h hl).mono fun e w' ⟨he, hb, ha⟩ => ⟨he, hb, by simpa [opt] using ha⟩

def besideL (W H s id : Int) : List Int :=
  opt (decide (acr W s ≤ id)) (id - acr W s) ++ opt (decide (id % acr W s < acr W s - 1)) (id + 1) ++ opt (decide (id + acr W s < cnt W H s)) (id + acr W s) ++ opt (decide (0 < id % acr W s)) (id - 1)

def RetInts (w : World) (L : List Int) (err : Int) (e : Ending) (w' : World) : Prop := ∃ v, e = .returned (.tuple #[v, .int .i64 err]) ∧ Ext w w' ∧ Own intE w' w.heap.size 3 v L

theorem Beside_no (W H s id : Int) (w : World) (hr : (hasE W H s [id] != 0) = true) :
    Calls Try.prog 100 #[.agg #[.int .i64 W, .int .i64 H, .int .i64 s], .int .i64 id] w fun e w' => e = .returned (.tuple #[.slice none 0 0, .int .i64 (hasE W H s [id])]) ∧ Ext w w' := by
  go_enter Try.func100, Try.ntmps100
  go_wp2_with (first
    | (go_at_call 141; refine (has_any W H s _ 0 _ [id] _ (by simp) (by simp) (by exact one_at _ _ _ _ (by simp))).mono ?_; rintro e w1 ⟨rfl, hb1⟩; obtain ⟨hc1, hf1⟩ := hb1.cells; have hz1 := hb1.size; (repeat (first | rw [World.size_alloc] at hz1 | rw [World.size_drew] at hz1)); have z1_0 : w.heap.size < w1.heap.size := (by omega)))
  go_ret2
  exact ⟨rfl, (by (with_reducible (repeat' (first | exact Ext.refl _ | assumption | refine Ext.drew ?_ | refine Ext.drewN ?_ _ | refine Ext.alloc ?_ _ | refine Ext.setCell ?_ ?_ _ | refine Ext.trans ?_ (by assumption)))); all_goals (first | (simp; done) | (simp; omega)))⟩

set_option maxHeartbeats 400000 in
theorem Beside_yes (W H s id : Int) (w : World) (hr : rightB W H s = true) (h0 : 0 ≤ id) (hid : id < cnt W H s) :
    Calls Try.prog 100 #[.agg #[.int .i64 W, .int .i64 H, .int .i64 s], .int .i64 id] w (RetInts w (besideL W H s id) 0) := by
  obtain ⟨h1, h2, h3, h4, h5, h6⟩ := rightB_true.1 hr
  have b0 := cnt_bd hr
  have b1 := acr_bd W s h5 h6 h1 h2
  have hbad := bad_false h0 hid
  have hany : [id].any (bad W H s) = false := by simp [hbad]
  have b3 : 0 ≤ id % acr W s ∧ id % acr W s ≤ 65536 := ⟨Int.emod_nonneg _ (by omega), Int.le_trans (emod_le h0 (by omega)) (by omega)⟩
  have k2 : id.tmod (acr W s) = id % acr W s := tmod_in h0 (by omega) (by omega)
  have hs0 : ¬ acr W s = 0 := by omega
  clear hbad
  go_enter Try.func100, Try.ntmps100
  go_wp2_with (first
    | (go_at_call 141; refine (has_ok W H s _ 0 _ [id] _ hr hany (by simp) (by simp) (by exact one_at _ _ _ _ (by simp))).mono ?_; rintro e w1 ⟨rfl, hb1⟩; obtain ⟨hc1, hf1⟩ := hb1.cells; have hz1 := hb1.size; (repeat (first | rw [World.size_alloc] at hz1 | rw [World.size_drew] at hz1)); have z1_0 : w.heap.size < w1.heap.size := (by omega))
    | (go_at_call 140; refine (across_any _ _ _ _ _ (by omega) (by omega) (by omega) (by omega)).mono ?_; rintro e w2 ⟨rfl, hb2⟩; obtain ⟨hc2, hf2⟩ := hb2.cells; have hz2 := hb2.size; (repeat (first | rw [World.size_alloc] at hz2 | rw [World.size_drew] at hz2)); have z2_0 : w.heap.size < w2.heap.size := (by omega)))
  have A0 : Acc (w2.alloc (.cells #[.slice none 0 0] 101)) w2.heap.size [] := ⟨_, heap_alloc_new _ _, Own.nil _ _ _ _⟩
  refine (beside1_any _ _ w2.heap.size [] _ A0 (by simp)).mono ?_
  rintro e w3 ⟨rfl, hb3, A3⟩
  have hc3 := below_cells hb3
  have hz3 := hb3.size
  simp only [World.size_alloc] at hz3
  have z3_0 : w.heap.size < w3.heap.size := by omega
  have l3 : ([] ++ opt (decide (acr W s ≤ id)) (id - acr W s)).length ≤ 1 := by simpa using opt_len _ _
  generalize hL3 : [] ++ opt (decide (acr W s ≤ id)) (id - acr W s) = L3 at *
  have HL3 := hide hL3
  clear hL3 A0
  go_wp2_with fail
  refine (beside1_any _ _ w2.heap.size L3 _ A3 (by omega)).mono ?_
  rintro e w4 ⟨rfl, hb4, A4⟩
  have hc4 := below_cells hb4
  have hz4 := hb4.size
  have z4_0 : w.heap.size < w4.heap.size := by omega
  have l4 : (L3 ++ opt (decide (id % acr W s < acr W s - 1)) (id + 1)).length ≤ 2 := by have := opt_len (decide (id % acr W s < acr W s - 1)) (id + 1); simp; omega
  generalize hL4 : L3 ++ opt (decide (id % acr W s < acr W s - 1)) (id + 1) = L4 at *
  have HL4 := hide hL4
  clear hL4
  clear A3
  go_wp2_with (first | (go_at_call 99; refine (count_yes _ _ _ _ hr).mono ?_; rintro e w5 ⟨rfl, hb5⟩; obtain ⟨hc5, hf5⟩ := hb5.cells; have hz5 := hb5.size; (repeat (first | rw [World.size_alloc] at hz5 | rw [World.size_drew] at hz5)); have z5_0 : w.heap.size < w5.heap.size := (by omega)))
  refine (beside1_any _ _ w2.heap.size L4 _ (A4.ext hb5) (by omega)).mono ?_
  rintro e w6 ⟨rfl, hb6, A6⟩
  have hc6 := below_cells hb6
  have hz6 := hb6.size
  have z6_0 : w.heap.size < w6.heap.size := by omega
  have l6 : (L4 ++ opt (decide (id + acr W s < cnt W H s)) (id + acr W s)).length ≤ 3 := by have := opt_len (decide (id + acr W s < cnt W H s)) (id + acr W s); simp; omega
  generalize hL6 : L4 ++ opt (decide (id + acr W s < cnt W H s)) (id + acr W s) = L6 at *
  have HL6 := hide hL6
  clear hL6 A4
  go_wp2_with fail
  refine (beside1_any _ _ w2.heap.size L6 _ A6 (by omega)).mono ?_
  rintro e w7 ⟨rfl, hb7, A7⟩
  obtain ⟨v, hq, ho⟩ := A7
  have hv := cell_of_one hq
  have HQ := hide hq
  have HO := hide ho
  clear hq ho A6
  go_wp2_with fail
  go_ret2
  have hx : Ext w w2 := (by (with_reducible (repeat' (first | exact Ext.refl _ | assumption | refine Ext.drew ?_ | refine Ext.drewN ?_ _ | refine Ext.alloc ?_ _ | refine Ext.setCell ?_ ?_ _ | refine Ext.trans ?_ (by assumption)))); all_goals (first | (simp; done) | (simp; omega)))
  have hy : Ext w w7 := (Ext.alloc hx (.cells #[.slice none 0 0] 101)).of_below (((hb3.trans hb4).trans (hb5.below.mono (by omega))).trans (hb6.trans hb7)) hx.size
  refine ⟨v, rfl, hy, ?_⟩
  have e : L6 ++ opt (decide (0 < id % acr W s)) (id - 1) = besideL W H s id := by rw [← HL6.out, ← HL4.out, ← HL3.out]; rfl
  rw [← e]
  exact HO.out.lower (by have := hx.size; omega)
end Go.Proofs.Ytifbmapianddcaa
