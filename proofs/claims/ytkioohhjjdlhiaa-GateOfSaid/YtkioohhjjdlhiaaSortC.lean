/- slices.SortFunc of a row of cells of one's own, row by row. -/
import Derived.Test.YtkioohhjjdlhiaaLayC
import Derived.Test.YtkioohhjjdlhiaaCmpW
import Derived.Test.YtkioohhjjdlhiaaRowT
import Derived.Test.YtkioohhjjdlhiaaSortI
import Derived.Shelf.SlSortCmp.NoneTotal
set_option linter.all false
set_option linter.unusedVariables false
set_option linter.unusedSimpArgs false
namespace Go.Proofs.Ytkioohhjjdlhiaa
open Go.RowKit

def encC (c : Cell) : List Value := [.int .i64 c.1, .int .i64 c.2]
theorem cmpC_lays (blk off size : Nat) (w : World) : Go.Proofs.CmpLays Try.prog 26 #[] encC 2 cmpC blk off size w :=
  fun _ _ _ _ x y => cmp1_any x y _

theorem flatC (l : List Cell) : (Go.Sort.flatK encC 2 l.toArray).toList = l.flatMap cellE.cells := by
  refine List.ext_getElem? (fun t => ?_)
  by_cases ht : t < l.length * 2
  · have h1 : (Go.Sort.flatK encC 2 l.toArray).toList[t]? = some (Go.Sort.flatK encC 2 l.toArray)[t]! := by
      have : t < (Go.Sort.flatK encC 2 l.toArray).size := by rw [Go.Sort.size_flatK]; simpa using ht
      rw [Array.getElem?_toList, Array.getElem?_eq_getElem this, getElem!_pos (Go.Sort.flatK encC 2 l.toArray) t this]
    rw [h1, Go.Sort.get_flatK _ _ _ _ (by simpa using ht)]
    have hk : t / 2 < l.length := by omega
    have hj : t / 2 * 2 + t % 2 = t := by omega
    have hy : l[t / 2]? = some l[t / 2] := List.getElem?_eq_getElem hk
    have e1 : l.toArray[t / 2]! = l[t / 2] := by rw [getElem!_pos l.toArray (t / 2) (by simpa using hk)]; simp
    rw [e1]
    have h2 : t % 2 = 0 ∨ t % 2 = 1 := by omega
    rcases h2 with h2 | h2
    · have := flat_at cellE l _ _ hy 0 (.int .i64 l[t / 2].1) rfl
      rw [show t / 2 * cellE.size + 0 = t by show t / 2 * 2 + 0 = t; omega] at this
      rw [this, h2]; rfl
    · have := flat_at cellE l _ _ hy 1 (.int .i64 l[t / 2].2) rfl
      rw [show t / 2 * cellE.size + 1 = t by show t / 2 * 2 + 1 = t; omega] at this
      rw [this, h2]; rfl
  · rw [List.getElem?_eq_none (by rw [Array.length_toList, Go.Sort.size_flatK]; simp; omega), List.getElem?_eq_none (by rw [cellE.flat_len]; show l.length * 2 ≤ t; omega)]

theorem own_putC {w : World} {g c n base : Nat} {e : TypeId} {l l' : List Cell} (h : Own cellE w base e (.slice (some ⟨g, 0, none⟩) n c) l) (ha : l'.length = n) : Own cellE (Go.Sort.putRowK encC 2 w g 0 l'.toArray) base e (.slice (some ⟨g, 0, none⟩) n c) l' := by
  obtain ⟨h1, h2⟩ := h
  rcases h2 with ⟨e, _⟩ | ⟨g', cap, cur, e, hb, hg, hn, hc, hs, ht⟩
  · cases e
  · have hl : n = l.length := by injection e
    have hcc : c = cap := by injection e
    have hgg : g = g' := by injection e with e1; injection e1 with e1; injection e1
    subst hcc hgg
    have hF := flatC l'
    have hsz : (Go.Sort.flatK encC 2 l'.toArray).size = l'.length * 2 := by rw [Go.Sort.size_flatK]; simp
    unfold Go.Sort.putRowK
    generalize Go.Sort.flatK encC 2 l'.toArray = F at hF hsz ⊢
    refine ⟨by rw [cellE.flat_len], .inr ⟨g, c, Go.Sort.putCells id 0 F cur, by rw [ha], hb, ?_, by rw [ha, hl]; exact hn, hc, by simp [Go.Sort.putCells, hs], ?_⟩⟩
    · unfold Go.Sort.putRow Go.Sort.mapBlock
      rw [Array.getElem?_modify, if_pos rfl, hg]
      rfl
    · have hcur : l'.length * 2 ≤ cur.size := by rw [hs, ha, hl]; exact Nat.mul_le_mul_right 2 hn
      rw [← hF]
      refine List.ext_getElem (by simp [Go.Sort.putCells, cellE, hsz]; omega) (fun i h1 h2 => ?_)
      have hi : i < F.size := by simpa using h2
      simp [Go.Sort.putCells, hi]

theorem own_holdsC {w : World} {g c base : Nat} {e : TypeId} {l : List Cell} (h : Own cellE w base e (.slice (some ⟨g, 0, none⟩) l.length c) l) : Go.Sort.HoldsK encC 2 w g 0 l.toArray := by
  intro j hj
  have hF := flatC l
  have hsz : (Go.Sort.flatK encC 2 l.toArray).size = l.length * 2 := by rw [Go.Sort.size_flatK]; simp
  generalize Go.Sort.flatK encC 2 l.toArray = F at hF hsz hj ⊢
  have hjl : j < l.length * 2 := by omega
  have h' : w.ownsRow base e 2 (.slice (some ⟨g, 0, none⟩) l.length c) l.length (l.flatMap cellE.cells) := h
  refine ⟨?_, h'.frozenAt _⟩
  have := h'.cellAt j (by omega)
  rw [Nat.zero_add, this, ← hF]
  simp [hj]

theorem sortC_any {w : World} {v : Value} {base : Nat} {l : List Cell} (h : Own cellE w base 52 v l) (hl : l.length ≤ 1000000) :
    Calls Try.prog 25 #[v, .func (.func 26) #[] #[]] w fun e w' => e = .returned (.tuple #[]) ∧ Own cellE w' base 52 v (sortL l) ∧ Touch (fun k => v.ownBlock = some k) w w' := by
  obtain ⟨a, c, rfl⟩ := h.slice
  rcases h.2 with ⟨hv, h0⟩ | ⟨g, cap, cur, hv, hb, hg, _⟩
  · obtain rfl : l = [] := List.eq_nil_of_length_eq_zero h0
    exact (Go.Proofs.AnyF.slices_SortFunc_none sortC a c _ w).mono fun e w' ⟨he, hw⟩ => ⟨he, by rw [hw, show sortL [] = [] by simp [sortL]]; exact h, by rw [hw]; exact Touch.refl _ _⟩
  · cases hv
    have eg : ∀ args w, (callFunc 26 args).run Try.prog w = .ok (.enter 26 args) w := enters_of Try.func26 (by kernel_rfl) rfl
    refine (Go.Proofs.AnyQ.slices_SortFunc_total sortC 2 Try.isAgg52 Try.sizeOf52 encC (fun _ => rfl) (fun x v hv => by simp [encC] at hv; rcases hv with rfl | rfl <;> rfl) cmpC cmpC_swo 26 #[] g 0 c l.toArray w eg (cmpC_lays _ _ _ _) (own_holdsC h) (lt_of_block hg) (by simp; omega) cmpC_total).mono ?_
    rintro e w' ⟨rfl, n, os, rfl⟩
    have o1 : Own cellE (Go.Sort.ahead w n) base 52 (.slice (some ⟨g, 0, none⟩) l.length c) l := h
    have o2 := own_putC o1 (l' := sortL l) (sortL_perm l).length_eq
    have t1 : Touch (fun k => k = g) w (Go.Sort.putRowK encC 2 (Go.Sort.ahead w n) g 0 (sortL l).toArray) := (touch_aheadI _ w n).trans (touch_putRowI _ _ _ _ _)
    refine ⟨rfl, o2.touch (touch_growI (fun _ => False) _ os) (fun _ _ x => x), (t1.trans (touch_growI _ _ os)).mono (fun k _ hk => by rw [hk]; rfl)⟩
end Go.Proofs.Ytkioohhjjdlhiaa
