/- Ranges over functions of two values. -/
import Derived.Test.YtifbmapianddcaaLib
set_option linter.all false
set_option linter.unusedVariables false
set_option linter.unusedSimpArgs false
namespace Go.Proofs.Ytifbmapianddcaa
open Go.RowKit

/-- .. where the first value goes into a slot of its own, and the second into a box. -/
theorem wp_range_sdbox {α : Type} {P : Program} {n : Nat} {g : Operand} {assign body : Code} {Q : Exit → Act → World → Prop} {a : Act} {w : World} {gf : Nat} {lb : Array Value} {encs : α → Array Value} {u v : α → Value} {cs : α → Array Value} {t : TypeId} {p1 p2 d bs : Nat} {xs : List α} {R : Nat → Prop}
    (hg : a.eval g = .func (.func gf) #[] lb) (eg : ∀ args w, (callFunc gf args).run P w = .ok (.enter gf args) w) (hseq : IterS P gf lb encs xs R w) (henc : ∀ x, encs x = #[u x, v x])
    (I : (Nat → Prop) → List α → World → Prop) (Ix : Code → (Nat → Prop) → List α → World → Prop) (hR : ∀ k, R k → k < w.heap.size)
    (hO : ∀ T pre W1 W2, I T pre W1 → Touch (fun k => k = w.heap.size ∨ k = w.heap.size + 1) W1 W2 → I T pre W2)
    (hA : ∀ T pre W1 o, I T pre W1 → I (fun k => T k ∨ k = W1.heap.size) pre (W1.alloc o))
    (hE : ∀ T pre W1 W2, I T pre W1 → Ext W1 W2 → I T pre W2)
    (hS : ∀ T pre W1 p u, I T pre W1 → T p.block → I T pre (W1.setCell p u))
    (hOx : ∀ c T pre W1 W2, Ix c T pre W1 → Touch (fun k => k = w.heap.size ∨ k = w.heap.size + 1) W1 W2 → Ix c T pre W2)
    (hEx : ∀ c T pre W1 W2, Ix c T pre W1 → Ext W1 W2 → Ix c T pre W2)
    (h0 : I (fun _ => False) [] w)
    (hassign : ∀ x W1 (K : Act → World → Prop), (∀ Bx W2, Ext W1 W2 → W2.heap[Bx]? = some (.cells (cs x) t (0, 0)) → W1.heap.size ≤ Bx → K { tmps := (((a.tmps.setIfInBounds p1 (u x)).setIfInBounds p2 (v x)).setIfInBounds d (u x)).setIfInBounds bs (.pointer (some ⟨Bx, 0, none⟩)), defers := [] } W2) →
      assign.wpIn (Fence.wide.inRound (w.heap.size + 1)) 3 P (Exit.then K (fun _ _ _ => False)) { tmps := (a.tmps.setIfInBounds p1 (u x)).setIfInBounds p2 (v x), defers := [] } W1)
    (hbody : ∀ T pre x Bx W1, I T pre W1 → W1.heap[Bx]? = some (.cells (cs x) t (0, 0)) → w.heap.size + 2 ≤ Bx → w.heap.size + 2 ≤ W1.heap.size → pre ++ [x] <+: xs → body.wpIn (Fence.wide.inRound (w.heap.size + 1)) 3 P
      (fun e _ W2 => ((e = .normal ∧ I T (pre ++ [x]) W2) ∨ ∃ c, jumpOf e = some c ∧ Ix c T (pre ++ [x]) W2) ∧ Touch (fun k => ¬ T k ∧ ¬ R k ∧ k ≠ w.heap.size ∧ k ≠ w.heap.size + 1) W1 W2) { tmps := (((a.tmps.setIfInBounds p1 (u x)).setIfInBounds p2 (v x)).setIfInBounds d (u x)).setIfInBounds bs (.pointer (some ⟨Bx, 0, none⟩)), defers := [] } W1)
    (hdone : ∀ T W1, I T xs W1 → W1.heap[w.heap.size]? = some (.deferred (some [])) → Q .normal { a with defers := { target := .collected w.heap.size, args := #[] } :: a.defers } W1)
    (hstop : ∀ c T pre W1, pre <+: xs → Ix c T pre W1 → W1.heap[w.heap.size]? = some (.deferred (some [])) → c.wpIn Fence.wide n P Q { a with defers := { target := .collected w.heap.size, args := #[] } :: a.defers } W1) :
    (Code.rangeFunc g #[p1, p2] assign body).wpIn Fence.wide n P Q a w := by
  refine wp_range_s hg eg hseq (fun x => by rw [henc]; rfl) I Ix (fun x a' W => ∃ Bx, w.heap.size + 2 ≤ Bx ∧ W.heap[Bx]? = some (.cells (cs x) t (0, 0)) ∧ a' = { tmps := (((a.tmps.setIfInBounds p1 (u x)).setIfInBounds p2 (v x)).setIfInBounds d (u x)).setIfInBounds bs (.pointer (some ⟨Bx, 0, none⟩)), defers := [] })
    hR hO hA hE hS hOx hEx ?_ h0 ?_ ?_ hdone hstop
  · rintro x a' W1 W2 ⟨Bx, h1, h2, h3⟩ tt
    exact ⟨Bx, h1, (tt.block Bx (Array.getElem?_eq_some_iff.1 h2).1 (fun e => by omega)).trans h2, h3⟩
  · intro T pre x W1 K i z hK
    have e : ∀ tm : Array Value, Array.foldl (fun (t : Array Value) (x : Nat × Value) => t.setIfInBounds x.1 x.2) tm (#[p1, p2].zip (encs x)) = (tm.setIfInBounds p1 (u x)).setIfInBounds p2 (v x) := fun tm => by rw [henc]; simp
    rw [e]
    exact hassign x W1 K fun Bx W2 e hb hx => hK _ _ e ⟨Bx, by omega, hb, rfl⟩
  · rintro T pre x a' W1 i ⟨Bx, h1, h2, rfl⟩ z hp
    exact hbody T pre x Bx W1 i h2 h1 z hp

/-- .. of two values, each in a box; all rounds end well. -/
theorem wp_range_bb {α : Type} {P : Program} {n : Nat} {g : Operand} {assign body : Code} {Q : Exit → Act → World → Prop} {a : Act} {w : World} {gf : Nat} {lb : Array Value} {encs : α → Array Value} {u v : α → Value} {cs1 cs2 : α → Array Value} {t : TypeId} {p1 p2 b1 b2 : Nat} {xs : List α} {R : Nat → Prop}
    (hg : a.eval g = .func (.func gf) #[] lb) (eg : ∀ args w, (callFunc gf args).run P w = .ok (.enter gf args) w) (hseq : IterX P gf lb encs xs R w) (henc : ∀ x, encs x = #[u x, v x])
    (I : (Nat → Prop) → List α → World → Prop) (hR : ∀ k, R k → k < w.heap.size)
    (hO : ∀ T pre W1 W2, I T pre W1 → Touch (fun k => k = w.heap.size ∨ k = w.heap.size + 1) W1 W2 → I T pre W2)
    (hA : ∀ T pre W1 o, I T pre W1 → I (fun k => T k ∨ k = W1.heap.size) pre (W1.alloc o))
    (hE : ∀ T pre W1 W2, I T pre W1 → Ext W1 W2 → I T pre W2)
    (hS : ∀ T pre W1 p u, I T pre W1 → T p.block → I T pre (W1.setCell p u))
    (h0 : I (fun _ => False) [] w)
    (hassign : ∀ x W1 (K : Act → World → Prop), (∀ B1 B2 W2, Ext W1 W2 → W2.heap[B1]? = some (.cells (cs1 x) t (0, 0)) → W2.heap[B2]? = some (.cells (cs2 x) t (0, 0)) → W1.heap.size ≤ B1 → W1.heap.size ≤ B2 → K { tmps := (((a.tmps.setIfInBounds p1 (u x)).setIfInBounds p2 (v x)).setIfInBounds b1 (.pointer (some ⟨B1, 0, none⟩))).setIfInBounds b2 (.pointer (some ⟨B2, 0, none⟩)), defers := [] } W2) →
      assign.wpIn (Fence.wide.inRound (w.heap.size + 1)) 3 P (Exit.then K (fun _ _ _ => False)) { tmps := (a.tmps.setIfInBounds p1 (u x)).setIfInBounds p2 (v x), defers := [] } W1)
    (hbody : ∀ T pre x B1 B2 W1, I T pre W1 → W1.heap[B1]? = some (.cells (cs1 x) t (0, 0)) → W1.heap[B2]? = some (.cells (cs2 x) t (0, 0)) → w.heap.size + 2 ≤ B1 → w.heap.size + 2 ≤ B2 → w.heap.size + 2 ≤ W1.heap.size → pre ++ [x] <+: xs → body.wpIn (Fence.wide.inRound (w.heap.size + 1)) 3 P
      (fun e _ W2 => e = .normal ∧ I T (pre ++ [x]) W2 ∧ Touch (fun k => ¬ T k ∧ ¬ R k ∧ k ≠ w.heap.size ∧ k ≠ w.heap.size + 1) W1 W2) { tmps := (((a.tmps.setIfInBounds p1 (u x)).setIfInBounds p2 (v x)).setIfInBounds b1 (.pointer (some ⟨B1, 0, none⟩))).setIfInBounds b2 (.pointer (some ⟨B2, 0, none⟩)), defers := [] } W1)
    (hdone : ∀ T W1, I T xs W1 → W1.heap[w.heap.size]? = some (.deferred (some [])) → Q .normal { a with defers := { target := .collected w.heap.size, args := #[] } :: a.defers } W1) :
    (Code.rangeFunc g #[p1, p2] assign body).wpIn Fence.wide n P Q a w := by
  refine wp_range_x hg eg hseq (fun x => by rw [henc]; rfl) I (fun x a' W => ∃ B1 B2, (w.heap.size + 2 ≤ B1 ∧ w.heap.size + 2 ≤ B2) ∧ W.heap[B1]? = some (.cells (cs1 x) t (0, 0)) ∧ W.heap[B2]? = some (.cells (cs2 x) t (0, 0)) ∧ a' = { tmps := (((a.tmps.setIfInBounds p1 (u x)).setIfInBounds p2 (v x)).setIfInBounds b1 (.pointer (some ⟨B1, 0, none⟩))).setIfInBounds b2 (.pointer (some ⟨B2, 0, none⟩)), defers := [] })
    hR hO hA hE hS ?_ h0 ?_ ?_ hdone
  · rintro x a' W1 W2 ⟨B1, B2, h1, h2, h2', h3⟩ tt
    exact ⟨B1, B2, h1, (tt.block B1 (Array.getElem?_eq_some_iff.1 h2).1 (fun e => by omega)).trans h2, (tt.block B2 (Array.getElem?_eq_some_iff.1 h2').1 (fun e => by omega)).trans h2', h3⟩
  · intro T pre x W1 K i z hK
    have e : ∀ tm : Array Value, Array.foldl (fun (t : Array Value) (x : Nat × Value) => t.setIfInBounds x.1 x.2) tm (#[p1, p2].zip (encs x)) = (tm.setIfInBounds p1 (u x)).setIfInBounds p2 (v x) := fun tm => by rw [henc]; simp
    rw [e]
    exact hassign x W1 K fun B1 B2 W2 e hb hb' hx hx' => hK _ _ e ⟨B1, B2, ⟨by omega, by omega⟩, hb, hb', rfl⟩
  · rintro T pre x a' W1 i ⟨B1, B2, h1, h2, h2', rfl⟩ z hp
    exact hbody T pre x B1 B2 W1 i h2 h2' h1.1 h1.2 z hp
end Go.Proofs.Ytifbmapianddcaa
