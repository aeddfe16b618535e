/- slices.Sort of a row of ints of one's own. -/
import Derived.Test.YtkioohhjjdlhiaaLayI
import Derived.Test.YtkioohhjjdlhiaaPartB
import Derived.Shelf.SortM.Plain
import Derived.Shelf.SortM.SortNone
set_option linter.all false
set_option linter.unusedVariables false
set_option linter.unusedSimpArgs false
namespace Go.Proofs.Ytkioohhjjdlhiaa
open Go.RowKit

theorem touch_putRowI {α : Type} [Inhabited α] (enc : α → Value) (w : World) (blk off : Nat) (d : Array α) : Touch (fun k => k = blk) w (Go.Sort.putRow enc w blk off d) :=
  ⟨rfl, rfl, rfl, by simp [Go.Sort.putRow, Go.Sort.mapBlock], fun k _ hs => by unfold Go.Sort.putRow Go.Sort.mapBlock; rw [Array.getElem?_modify, if_neg (fun e => hs e.symm)]⟩
theorem touch_growI (S : Nat → Prop) (w : World) (os : Array Obj) : Touch S w (Go.Sort.grow w os) :=
  ⟨rfl, rfl, rfl, by simp [Go.Sort.grow], fun k hk _ => by unfold Go.Sort.grow; exact Array.getElem?_append_left hk⟩
theorem touch_aheadI (S : Nat → Prop) (w : World) (m : Nat) : Touch S w (Go.Sort.ahead w m) := ⟨rfl, rfl, rfl, Nat.le_refl _, fun _ _ _ => rfl⟩

def sortInt (l : List Int) : List Int := l.mergeSort fun x y => decide (x ≤ y)
theorem sortInt_perm (l : List Int) : (sortInt l).Perm l := List.mergeSort_perm l _
theorem sortInt_len (l : List Int) : (sortInt l).length = l.length := (sortInt_perm l).length_eq
theorem sortInt_sorted (l : List Int) : (sortInt l).Pairwise (· ≤ ·) := by
  have h := List.pairwise_mergeSort (le := fun x y : Int => decide (x ≤ y)) (by intro a b c h1 h2; simp at h1 h2 ⊢; omega) (by intro a b; simp; omega) l
  exact List.Pairwise.imp (fun {a b} h => by simpa using h) h

theorem int_flat (l : List Int) : l.flatMap intE.cells = l.map (Value.int .i64) := by
  induction l with
  | nil => rfl
  | cons a l ih => rw [List.flatMap_cons, ih]; rfl

theorem own_putI {w : World} {g c n base : Nat} {e : TypeId} {l l' : List Int} (h : Own intE w base e (.slice (some ⟨g, 0, none⟩) n c) l) (ha : l'.length = n) : Own intE (Go.Sort.putRow (Value.int .i64) w g 0 l'.toArray) base e (.slice (some ⟨g, 0, none⟩) n c) l' := by
  obtain ⟨h1, h2⟩ := h
  rcases h2 with ⟨e, _⟩ | ⟨g', cap, cur, e, hb, hg, hn, hc, hs, ht⟩
  · cases e
  · have hl : n = l.length := by injection e
    have hcc : c = cap := by injection e
    have hgg : g = g' := by injection e with e1; injection e1 with e1; injection e1
    subst hcc hgg
    refine ⟨by rw [int_flat]; simp [intE], .inr ⟨g, c, Go.Sort.putCells (Value.int .i64) 0 l'.toArray cur, by rw [ha], hb, ?_, by rw [ha, hl]; exact hn, hc, by simp [Go.Sort.putCells, hs], ?_⟩⟩
    · unfold Go.Sort.putRow Go.Sort.mapBlock
      rw [Array.getElem?_modify, if_pos rfl, hg]
      rfl
    · have hcur : l'.length ≤ cur.size := by rw [hs, ha, hl]; simpa [intE] using hn
      rw [int_flat]
      refine List.ext_getElem (by simp [Go.Sort.putCells, intE]; omega) (fun i h1 h2 => ?_)
      have hi : i < l'.length := by simpa using h2
      simp [Go.Sort.putCells, hi]

theorem own_holdsI {w : World} {g c base : Nat} {e : TypeId} {l : List Int} (h : Own intE w base e (.slice (some ⟨g, 0, none⟩) l.length c) l) : Go.Sort.Holds (Value.int .i64) w g 0 l.toArray := by
  intro j hj
  have hr := h.reads.ints.2
  have hjl : j < l.length := by simpa using hj
  have h' : w.ownsRow base e intE.size (.slice (some ⟨g, 0, none⟩) l.length c) l.length (l.flatMap intE.cells) := h
  refine ⟨?_, h'.frozenAt _⟩
  rw [hr j hjl]
  simp [hjl]

theorem sortI_any {w : World} {v : Value} {base : Nat} {l : List Int} (h : Own intE w base 3 v l) (hl : l.length ≤ 100000) :
    Calls Try.prog 18 #[v] w fun e w' => e = .returned (.tuple #[]) ∧ Own intE w' base 3 v (sortInt l) ∧ Touch (fun k => v.ownBlock = some k) w w' := by
  obtain ⟨a, c, rfl⟩ := h.slice
  rcases h.2 with ⟨hv, h0⟩ | ⟨g, cap, cur, hv, hb, hg, _⟩
  · obtain rfl : l = [] := List.eq_nil_of_length_eq_zero h0
    exact (Go.Proofs.AnyM.slices_Sort_int_none sortI a c w).mono fun e w' ⟨he, hw⟩ => ⟨he, by rw [hw, show sortInt [] = [] by simp [sortInt]]; exact h, by rw [hw]; exact Touch.refl _ _⟩
  · cases hv
    refine (Go.Proofs.AnyM.slices_Sort_int sortI g 0 c l w (own_holdsI h) (lt_of_block hg) (by omega)).mono ?_
    rintro e w' ⟨rfl, n, os, rfl⟩
    have o1 : Own intE (Go.Sort.ahead w n) base 3 (.slice (some ⟨g, 0, none⟩) l.length c) l := h
    have o2 := own_putI o1 (sortInt_len l)
    have t1 : Touch (fun k => k = g) w (Go.Sort.putRow (Value.int .i64) (Go.Sort.ahead w n) g 0 (sortInt l).toArray) := (touch_aheadI _ w n).trans (touch_putRowI _ _ _ _ _)
    refine ⟨rfl, o2.touch (touch_growI (fun _ => False) _ os) (fun _ _ x => x), (t1.trans (touch_growI _ _ os)).mono (fun k _ hk => by rw [hk]; rfl)⟩
end Go.Proofs.Ytkioohhjjdlhiaa
