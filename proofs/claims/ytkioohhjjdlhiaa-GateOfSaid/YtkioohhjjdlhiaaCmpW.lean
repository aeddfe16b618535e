/- The comparison by which cells are put in order: its walk. -/
import Derived.Test.YtkioohhjjdlhiaaCmpP
import Derived.Sort.Grow
set_option linter.all false
set_option linter.unusedVariables false
set_option linter.unusedSimpArgs false
namespace Go.Proofs.Ytkioohhjjdlhiaa
open Go.RowKit

/-- Draws, and new blocks. -/
def Grown (w w' : World) : Prop := ∃ q os, w' = Go.Sort.grow (w.drewN q) os
theorem Grown.refl (w : World) : Grown w w := ⟨0, #[], by rw [Go.Sort.grow_empty]; rfl⟩
theorem Grown.drew {w w' : World} (h : Grown w w') : Grown w w'.drew := by
  obtain ⟨q, os, rfl⟩ := h
  exact ⟨q + 1, os, rfl⟩
theorem Grown.alloc {w w' : World} (h : Grown w w') (o : Obj) : Grown w (w'.alloc o) := by
  obtain ⟨q, os, rfl⟩ := h
  exact ⟨q, os ++ #[o], by rw [Go.Sort.alloc_eq_grow, Go.Sort.grow_grow]⟩

theorem cmpI_anyG (x y : Int) (w : World) : Calls Try.prog 28 #[.int .i64 x, .int .i64 y] w fun e w' => e = .returned (.int .i64 (Go.Lib.compareInt x y)) ∧ w = w' := by
  go_enter Try.func28, Try.ntmps28
  go_wp2
  all_goals (go_ret; refine ⟨?_, rfl⟩; unfold Go.Lib.compareInt; (repeat' split) <;> first | rfl | (exfalso; omega))

def orI (x y : Int) : Int := if x = 0 then y else x
theorem or2_any (x y : Int) (g : Nat) (w : World) (h : IntsAt w g 0 [x, y]) : Calls Try.prog 27 #[.slice (some ⟨g, 0, none⟩) 2 2] w fun e w' => e = .returned (.int .i64 (orI x y)) ∧ w = w' := by
  have c0 : w.cell? ⟨g, 0, none⟩ = some (.int .i64 x) := by simpa using h 0 (by simp)
  have c1 : w.cell? ⟨g, 1, none⟩ = some (.int .i64 y) := by simpa using h 1 (by simp)
  clear h
  unfold orI
  by_cases hx : x = 0
  · subst hx
    rw [if_pos rfl]
    cases hy : (y == 0)
    · go_enter Try.func27, Try.ntmps27
      go_wp2
      go_loop [8] (fun i => i = .int .i64 0 ∨ i = .int .i64 1) (fun i => 2 - (intOf i).toNat)
      case atStart => exact .inl rfl
      case round =>
        rcases hrel with rfl | rfl
        · go_wp2
          go_round
          case rel => exact .inr (by go_num)
          case measure => simp [intOf]
        · go_wp2
          go_ret
          exact ⟨rfl, rfl⟩
    · obtain rfl : y = 0 := by simpa using hy
      go_enter Try.func27, Try.ntmps27
      go_wp2
      go_loop [8] (fun i => i = .int .i64 0 ∨ i = .int .i64 1 ∨ i = .int .i64 2) (fun i => 2 - (intOf i).toNat)
      case atStart => exact .inl rfl
      case round =>
        rcases hrel with rfl | rfl | rfl
        · go_wp2
          go_round
          case rel => exact .inr (.inl (by go_num))
          case measure => simp [intOf]
        · go_wp2
          go_round
          case rel => exact .inr (.inr (by go_num))
          case measure => simp [intOf]
        · go_wp2
          go_ret
          exact ⟨rfl, rfl⟩
  · rw [if_neg hx]
    have hx' : (x == 0) = false := by simpa using hx
    clear hx
    go_enter Try.func27, Try.ntmps27
    go_wp2
    go_loop [8] (fun i => i = .int .i64 0) (fun i => 0)
    case atStart => exact rfl
    case round =>
      obtain rfl := hrel
      go_wp2
      go_ret
      exact ⟨rfl, rfl⟩

theorem cmp1_any (p q : Cell) (w : World) : Calls Try.prog 26 #[.agg #[.int .i64 p.1, .int .i64 p.2], .agg #[.int .i64 q.1, .int .i64 q.2]] w fun e w' => e = .returned (.int .i64 (cmpC p q)) ∧ Grown w w' := by
  obtain ⟨px, py⟩ := p
  obtain ⟨qx, qy⟩ := q
  have HC := hide (show cmpC (px, py) (qx, qy) = orI (Go.Lib.compareInt py qy) (Go.Lib.compareInt px qx) from rfl)
  rw [HC.out]
  simp only
  go_enter Try.func26, Try.ntmps26
  go_wp2_with fail
  have G2 := hide (((Grown.refl w).alloc (.cells #[.int .i64 px, .int .i64 py] 52)).alloc (.cells #[.int .i64 qx, .int .i64 qy] 52))
  have S2 : Hid (CellsAt [(⟨w.heap.size, 0, none⟩, .int .i64 px), (⟨w.heap.size, 1, none⟩, .int .i64 py), (⟨w.heap.size + 1, 0, none⟩, .int .i64 qx), (⟨w.heap.size + 1, 1, none⟩, .int .i64 qy)] ((w.alloc (.cells #[.int .i64 px, .int .i64 py] 52)).alloc (.cells #[.int .i64 qx, .int .i64 qy] 52))) := hide ⟨by simp, by simp, by simp, by simp, trivial⟩
  obtain ⟨w2, hw2⟩ : ∃ w2, (w.alloc (.cells #[.int .i64 px, .int .i64 py] 52)).alloc (.cells #[.int .i64 qx, .int .i64 qy] 52) = w2 := ⟨_, rfl⟩
  rw [hw2] at G2 S2 ⊢
  obtain ⟨g, hg⟩ : ∃ g, w.heap.size = g := ⟨_, rfl⟩
  rw [hg] at S2 ⊢
  clear hw2 hg HC
  refine seqH_start (S := (fun X => CellsAt [(⟨g, 0, none⟩, .int .i64 px), (⟨g, 1, none⟩, .int .i64 py), (⟨g + 1, 0, none⟩, .int .i64 qx), (⟨g + 1, 1, none⟩, .int .i64 qy)] X ∧ Grown w X)) [(0, true), (1, true), (2, true), (3, true), (5, true), (6, true), (7, true), (8, true), (4, false), (9, false), (10, false), (11, false), (12, true)] (by kernel_rfl) (by kernel_rfl) (by kernel_rfl) (by decide) (fun _ _ d _ _ h => by cases d <;> exact h) ⟨CellsAt.ext ((Ext.refl _).drew) S2.out, G2.out.drew⟩ (fun hHeld => ?_)
  iterate 8 (apply SeqH.free; (· (simp only [List.getElem?_toArray, List.getElem?_cons_succ, List.getElem?_cons_zero]; rfl)); (· first | exact Or.inr ⟨by rfl, rfl⟩ | (refine Or.inl ⟨by rfl, ?_⟩; intro w hSw; (try dsimp only at hSw); simp only [CellsAt] at hSw; go_simp; try with_reducible rfl)); try simp only [Act.put, List.setIfInBounds_toArray, List.set_cons_zero, List.set_cons_succ])
  (apply SeqH.step; (· (simp only [List.getElem?_toArray, List.getElem?_cons_succ, List.getElem?_cons_zero]; rfl)); intro K hK; go_simp; refine (cmpI_anyG _ _ _).mono ?_; rintro e9 w9 ⟨rfl, rfl⟩; go_wp2_with fail; refine hK.out _ _ (⟨CellsAt.ext (by (with_reducible (repeat' (first | exact Ext.refl _ | assumption | refine Ext.drew ?_ | refine Ext.drewN ?_ _ | refine Ext.alloc ?_ _ | refine Ext.setCell ?_ ?_ _ | refine Ext.trans ?_ (by assumption)))); all_goals (first | (simp; done) | (simp; omega))) S2.out, G2.out.drew⟩) (fun hHeld => ?_); clear hK K; try simp only [Act.put, List.setIfInBounds_toArray, List.set_cons_zero, List.set_cons_succ])
  (apply SeqH.step; (· (simp only [List.getElem?_toArray, List.getElem?_cons_succ, List.getElem?_cons_zero]; rfl)); intro K hK; go_simp; refine (cmpI_anyG _ _ _).mono ?_; rintro e9 w9 ⟨rfl, rfl⟩; go_wp2_with fail; refine hK.out _ _ (⟨CellsAt.ext (by (with_reducible (repeat' (first | exact Ext.refl _ | assumption | refine Ext.drew ?_ | refine Ext.drewN ?_ _ | refine Ext.alloc ?_ _ | refine Ext.setCell ?_ ?_ _ | refine Ext.trans ?_ (by assumption)))); all_goals (first | (simp; done) | (simp; omega))) S2.out, G2.out.drew⟩) (fun hHeld => ?_); clear hK K; try simp only [Act.put, List.setIfInBounds_toArray, List.set_cons_zero, List.set_cons_succ])
  (apply SeqH.step; (· (simp only [List.getElem?_toArray, List.getElem?_cons_succ, List.getElem?_cons_zero]; rfl)); intro K hK; go_simp; refine hK.out _ _ (⟨CellsAt.ext (by (with_reducible (repeat' (first | exact Ext.refl _ | assumption | refine Ext.drew ?_ | refine Ext.drewN ?_ _ | refine Ext.alloc ?_ _ | refine Ext.setCell ?_ ?_ _ | refine Ext.trans ?_ (by assumption)))); all_goals (first | (simp; done) | (simp; omega))) S2.out, (G2.out.drew).alloc _⟩) (fun hHeld => ?_); clear hK K; try simp only [Act.put, List.setIfInBounds_toArray, List.set_cons_zero, List.set_cons_succ])
  (apply SeqH.step; (· (simp only [List.getElem?_toArray, List.getElem?_cons_succ, List.getElem?_cons_zero]; rfl)); intro K hK; go_simp; refine (or2_any (Go.Lib.compareInt py qy) (Go.Lib.compareInt px qx) w2.heap.size _ ?_).mono ?_; (· exact fun k hk => two_at w2 _ _ _ _ rfl k hk); rintro e9 w9 ⟨rfl, rfl⟩; go_wp2_with fail; refine hK.out _ _ (⟨CellsAt.ext (by (with_reducible (repeat' (first | exact Ext.refl _ | assumption | refine Ext.drew ?_ | refine Ext.drewN ?_ _ | refine Ext.alloc ?_ _ | refine Ext.setCell ?_ ?_ _ | refine Ext.trans ?_ (by assumption)))); all_goals (first | (simp; done) | (simp; omega))) S2.out, (G2.out.drew).alloc _⟩) (fun hHeld => ?_); clear hK K; try simp only [Act.put, List.setIfInBounds_toArray, List.set_cons_zero, List.set_cons_succ])
  iterate 1 (apply SeqH.free; (· (simp only [List.getElem?_toArray, List.getElem?_cons_succ, List.getElem?_cons_zero]; rfl)); (· first | exact Or.inr ⟨by rfl, rfl⟩ | (refine Or.inl ⟨by rfl, ?_⟩; intro w hSw; (try dsimp only at hSw); simp only [CellsAt] at hSw; go_simp; try with_reducible rfl)); try simp only [Act.put, List.setIfInBounds_toArray, List.set_cons_zero, List.set_cons_succ])
  refine SeqH.done ?_
  have G := hide hHeld.2
  clear hHeld
  go_wp2
  go_ret
  exact ⟨rfl, G.out⟩
end Go.Proofs.Ytkioohhjjdlhiaa
