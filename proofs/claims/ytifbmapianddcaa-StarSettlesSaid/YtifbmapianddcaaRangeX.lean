/- A range over a function whose iterator stores into cells of its own. -/
import Derived.Test.YtifbmapianddcaaTouch
import Derived.RangeFuncNested
import Derived.RangeFuncBound
import Derived.RangeFuncCalls
import Derived.RangeFuncLeaves
namespace Go.Proofs.Ytifbmapianddcaa
open Go.RowKit

/-- The iterator's word: it may lay blocks (T: those that are its own), and store into these; a round keeps these, and what the iterator reads (R). -/
def IterX {α : Type} (P : Program) (gf : Nat) (lb : Array Value) (encs : α → Array Value) (xs : List α) (R : Nat → Prop) (w : World) : Prop :=
  ∀ (l : Nat) (J : (Nat → Prop) → List α → World → Prop) (W : World), Ext w W →
    (∀ T pre W1 o, J T pre W1 → J (fun k => T k ∨ k = W1.heap.size) pre (W1.alloc o)) →
    (∀ T pre W1 W2, J T pre W1 → Ext W1 W2 → J T pre W2) →
    (∀ T pre W1 p u, J T pre W1 → T p.block → J T pre (W1.setCell p u)) →
    (∀ T pre x W1, J T pre W1 → pre ++ [x] <+: xs → YieldAt Fence.wide 3 P l (encs x) W1 fun e W' => e = .returned (.bool true) ∧ J T (pre ++ [x]) W' ∧ Touch (fun k => ¬ T k ∧ ¬ R k) W1 W') →
    J (fun _ => False) [] W →
    Calls P gf (#[.func (.yield l) #[] #[]] ++ lb) W fun e W' => (∃ v, e = .returned v) ∧ ∃ T, J T xs W'

theorem touch_putObj {W : World} (k : Nat) (o : Obj) : Touch (fun j => j = k) W (W.putObj k o) :=
  ⟨rfl, rfl, rfl, by simp, fun i _ hn => World.putObj_heap_other hn⟩

theorem wp_range_x {α : Type} {P : Program} {n : Nat} {g : Operand} {ps : Array Tmp} {assign body : Code} {Q : Exit → Act → World → Prop} {a : Act} {w : World} {gf : Nat} {lb : Array Value} {encs : α → Array Value} {xs : List α} {R : Nat → Prop}
    (hg : a.eval g = .func (.func gf) #[] lb) (eg : ∀ args w, (callFunc gf args).run P w = .ok (.enter gf args) w) (hseq : IterX P gf lb encs xs R w) (hps : ∀ x, (encs x).size = ps.size)
    (I : (Nat → Prop) → List α → World → Prop) (Ax : α → Act → World → Prop) (hR : ∀ k, R k → k < w.heap.size)
    (hO : ∀ T pre W1 W2, I T pre W1 → Touch (fun k => k = w.heap.size ∨ k = w.heap.size + 1) W1 W2 → I T pre W2)
    (hA : ∀ T pre W1 o, I T pre W1 → I (fun k => T k ∨ k = W1.heap.size) pre (W1.alloc o))
    (hE : ∀ T pre W1 W2, I T pre W1 → Ext W1 W2 → I T pre W2)
    (hS : ∀ T pre W1 p u, I T pre W1 → T p.block → I T pre (W1.setCell p u))
    (hAx : ∀ x a' W1 W2, Ax x a' W1 → Touch (fun k => k = w.heap.size ∨ k = w.heap.size + 1) W1 W2 → Ax x a' W2)
    (h0 : I (fun _ => False) [] w)
    (hassign : ∀ T pre x W1 (K : Act → World → Prop), I T pre W1 → w.heap.size + 2 ≤ W1.heap.size → (∀ a' W2, Ext W1 W2 → Ax x a' W2 → K a' W2) →
      assign.wpIn (Fence.wide.inRound (w.heap.size + 1)) 3 P (Exit.then K (fun _ _ _ => False)) { tmps := (ps.zip (encs x)).foldl (fun t (p, v) => t.setIfInBounds p v) a.tmps, defers := [] } W1)
    (hbody : ∀ T pre x a' W1, I T pre W1 → Ax x a' W1 → w.heap.size + 2 ≤ W1.heap.size → pre ++ [x] <+: xs → body.wpIn (Fence.wide.inRound (w.heap.size + 1)) 3 P
      (fun e _ W2 => e = .normal ∧ I T (pre ++ [x]) W2 ∧ Touch (fun k => ¬ T k ∧ ¬ R k ∧ k ≠ w.heap.size ∧ k ≠ w.heap.size + 1) W1 W2) a' W1)
    (hdone : ∀ T W1, I T xs W1 → W1.heap[w.heap.size]? = some (.deferred (some [])) → Q .normal { a with defers := { target := .collected w.heap.size, args := #[] } :: a.defers } W1) :
    (Code.rangeFunc g ps assign body).wpIn Fence.wide n P Q a w := by
  refine wpIn_rangeFunc ?_
  intro fn hfn
  obtain ⟨rec, hrec⟩ : ∃ rec : LoopState → Option Code → Loop, rec = fun st pe => { state := st, pending := pe, fn, tmps := a.tmps, params := ps, assign, body, defers := w.heap.size } := ⟨_, rfl⟩
  obtain ⟨W1, hW1⟩ : ∃ W1, (w.alloc (.deferred (some []))).alloc (.loop (rec .ready none)) = W1 := ⟨_, rfl⟩
  have hL1 : W1.heap[w.heap.size + 1]? = some (.loop (rec .ready none)) := by
    rw [← hW1]; have := World.alloc_heap_new (w.alloc (.deferred (some []))) (.loop (rec .ready none)); rwa [World.size_alloc] at this
  have hK1 : W1.heap[w.heap.size]? = some (.deferred (some [])) := by
    rw [← hW1]; exact (Below.heap_alloc _ _ _ (by simp)).trans (World.alloc_heap_new w _)
  have hx1 : Ext w W1 := by rw [← hW1]; exact ((Ext.refl w).alloc _).alloc _
  have hI1 : I (fun _ => False) [] W1 := hE _ _ _ _ h0 hx1
  have hz1 : w.heap.size + 2 ≤ W1.heap.size := by rw [← hW1]; simp
  refine ⟨w.heap.size + 1, [{ target := .collected w.heap.size, args := #[] }], W1, { target := .fn (.func gf) lb, args := #[.func (.yield (w.heap.size + 1)) #[] #[]] }, W1, gf,
    #[.func (.yield (w.heap.size + 1)) #[] #[]] ++ lb, W1, ?_, ?_, ?_, ?_, fun h => by simp [Fence.wide] at h, ?_⟩
  · rw [← hW1, hrec]; exact run_enterLoop_outer _ _ _ _ _
  · simp only [resolve, hg]
    simp [go_sem]
  · intro f' _; exact trivial
  · simp [invoke, go_sem, eg]
  · refine callsIn_wide.2 ((hseq (w.heap.size + 1)
      (fun T pre W => I T pre W ∧ ¬ T w.heap.size ∧ ¬ T (w.heap.size + 1) ∧ w.heap.size + 2 ≤ W.heap.size ∧ W.heap[w.heap.size + 1]? = some (.loop (rec .ready none)) ∧ W.heap[w.heap.size]? = some (.deferred (some [])))
      W1 hx1 ?_ ?_ ?_ ?_ ⟨hI1, fun x => x, fun x => x, hz1, hL1, hK1⟩).mono ?_)
    · rintro T pre W o ⟨i, t1, t2, z, hl, hk⟩
      refine ⟨hA _ _ _ _ i, fun h => h.elim t1 (fun e => by omega), fun h => h.elim t2 (fun e => by omega), by simp; omega, ?_, ?_⟩
      · exact (Below.heap_alloc _ _ _ (by omega)).trans hl
      · exact (Below.heap_alloc _ _ _ (by omega)).trans hk
    · rintro T pre W W' ⟨i, t1, t2, z, hl, hk⟩ e
      exact ⟨hE _ _ _ _ i e, t1, t2, Nat.le_trans z e.size, (e.block (by omega)).trans hl, (e.block (by omega)).trans hk⟩
    · rintro T pre W p u ⟨i, t1, t2, z, hl, hk⟩ hp
      have tt : Touch (fun k => k = p.block) W (W.setCell p u) := (Touch.refl (fun k => k = p.block) W).setCell (.inl rfl) u
      exact ⟨hS _ _ _ _ _ i hp, t1, t2, Nat.le_trans z tt.size, (tt.block (w.heap.size + 1) (by omega) (fun e => t2 (by rw [show w.heap.size + 1 = p.block from e]; exact hp))).trans hl, (tt.block w.heap.size (by omega) (fun e => t1 (by rw [show w.heap.size = p.block from e]; exact hp))).trans hk⟩
    · rintro T pre x W ⟨i, t1, t2, z, hl, hk⟩ hpre
      have hy := run_yield (P := P) (args := encs x) hl (by rw [hrec]; exact hps x)
      rw [hrec] at hy
      refine ⟨fn, _, assign, body, hy, roundIn_of_wpIn hfn (hassign T pre x W _ i z ?_)⟩
      clear hy
      intro a' W2 e2 ax
      have hl2 := (e2.block (k := w.heap.size + 1) (by omega)).trans hl
      have hk2 := (e2.block (k := w.heap.size) (by omega)).trans hk
      have i2 := hE _ _ _ _ i e2
      have z2 := Nat.le_trans z e2.size
      refine ⟨_, run_beginRound hl2 (by rw [hrec]), ?_⟩
      obtain ⟨W3, hW3⟩ : ∃ W3, W2.putObj (w.heap.size + 1) (.loop { rec .ready none with state := .busy }) = W3 := ⟨_, rfl⟩
      have t3 : Touch (fun k => k = w.heap.size + 1) W2 W3 := by rw [← hW3]; exact touch_putObj _ _
      have hl3 : W3.heap[w.heap.size + 1]? = some (.loop { rec .ready none with state := .busy }) := by rw [← hW3]; exact World.putObj_heap_same (by omega)
      have hk3 : W3.heap[w.heap.size]? = some (.deferred (some [])) := (t3.block _ (by omega) (by omega)).trans hk2
      have i3 := hO _ _ _ _ i2 (t3.mono (fun k _ h => .inr h))
      have ax3 := hAx _ _ _ _ ax (t3.mono (fun k _ h => .inr h))
      have z3 := Nat.le_trans z2 t3.size
      rw [hW3]
      refine wpIn_mono (hbody T pre x a' W3 i3 ax3 z3 hpre) ?_
      rintro e a4 W4 ⟨rfl, i4, t4⟩
      have hl4 := (t4.block (w.heap.size + 1) (by omega) (fun h => h.2.2.2 rfl)).trans hl3
      have hk4 := (t4.block w.heap.size (by omega) (fun h => h.2.2.1 rfl)).trans hk3
      have z4 := Nat.le_trans z3 t4.size
      have hr := run_endRound (P := P) none hl4
      rw [hrec] at hr
      have t5 : Touch (fun k => k = w.heap.size + 1) W4 (W4.putObj (w.heap.size + 1) (.loop (rec .ready none))) := touch_putObj _ _
      refine ⟨_, _, hr, rfl, ⟨?_, t1, t2, ?_, ?_, ?_⟩, ?_⟩
      · have := hO _ _ _ _ i4 (t5.mono (fun k _ h => .inr h))
        rw [hrec] at this
        exact this
      · simp; omega
      · rw [hrec]; exact World.putObj_heap_same (by omega)
      · exact (World.putObj_heap_other (by omega)).trans hk4
      · have t6 := ((Touch.of_ext (S := fun k => ¬ T k ∧ ¬ R k) e2).trans (t3.mono (fun k _ h => by subst h; exact ⟨t2, fun hr => by have := hR _ hr; omega⟩))).trans (t4.mono (S' := fun k => ¬ T k ∧ ¬ R k) (fun k _ h => ⟨h.1, h.2.1⟩))
        have t7 := t6.trans (t5.mono (S' := fun k => ¬ T k ∧ ¬ R k) (fun k _ h => by subst h; exact ⟨t2, fun hr => by have := hR _ hr; omega⟩))
        rw [hrec] at t7
        exact t7
    · rintro e W2 ⟨⟨v, rfl⟩, T, i, t1, t2, z, hl, hk⟩
      refine ⟨none, _, by have := run_endLoop (P := P) hl (by rw [hrec]; simp); rw [hrec] at this; exact this, ?_⟩
      exact hdone T _ (hO _ _ _ _ i ((touch_putObj (w.heap.size + 1) _).mono (fun k _ h => .inr h))) ((World.putObj_heap_other (by omega)).trans hk)

/-- .. where the loop's variable lies in a box. -/
theorem wp_range_box {α : Type} {P : Program} {n : Nat} {g : Operand} {assign body : Code} {Q : Exit → Act → World → Prop} {a : Act} {w : World} {gf : Nat} {lb : Array Value} {v : α → Value} {cs : α → Array Value} {t : TypeId} {psl bs : Nat} {xs : List α} {R : Nat → Prop}
    (hg : a.eval g = .func (.func gf) #[] lb) (eg : ∀ args w, (callFunc gf args).run P w = .ok (.enter gf args) w) (hseq : IterX P gf lb (fun x => #[v x]) xs R w)
    (I : (Nat → Prop) → List α → World → Prop) (hR : ∀ k, R k → k < w.heap.size)
    (hO : ∀ T pre W1 W2, I T pre W1 → Touch (fun k => k = w.heap.size ∨ k = w.heap.size + 1) W1 W2 → I T pre W2)
    (hA : ∀ T pre W1 o, I T pre W1 → I (fun k => T k ∨ k = W1.heap.size) pre (W1.alloc o))
    (hE : ∀ T pre W1 W2, I T pre W1 → Ext W1 W2 → I T pre W2)
    (hS : ∀ T pre W1 p u, I T pre W1 → T p.block → I T pre (W1.setCell p u))
    (h0 : I (fun _ => False) [] w)
    (hassign : ∀ x W1 (K : Act → World → Prop), (∀ Bx W2, Ext W1 W2 → W2.heap[Bx]? = some (.cells (cs x) t (0, 0)) → W1.heap.size ≤ Bx → K { tmps := (a.tmps.setIfInBounds psl (v x)).setIfInBounds bs (.pointer (some ⟨Bx, 0, none⟩)), defers := [] } W2) →
      assign.wpIn (Fence.wide.inRound (w.heap.size + 1)) 3 P (Exit.then K (fun _ _ _ => False)) { tmps := a.tmps.setIfInBounds psl (v x), defers := [] } W1)
    (hbody : ∀ T pre x Bx W1, I T pre W1 → W1.heap[Bx]? = some (.cells (cs x) t (0, 0)) → w.heap.size + 2 ≤ Bx → w.heap.size + 2 ≤ W1.heap.size → pre ++ [x] <+: xs → body.wpIn (Fence.wide.inRound (w.heap.size + 1)) 3 P
      (fun e _ W2 => e = .normal ∧ I T (pre ++ [x]) W2 ∧ Touch (fun k => ¬ T k ∧ ¬ R k ∧ k ≠ w.heap.size ∧ k ≠ w.heap.size + 1) W1 W2) { tmps := (a.tmps.setIfInBounds psl (v x)).setIfInBounds bs (.pointer (some ⟨Bx, 0, none⟩)), defers := [] } W1)
    (hdone : ∀ T W1, I T xs W1 → W1.heap[w.heap.size]? = some (.deferred (some [])) → Q .normal { a with defers := { target := .collected w.heap.size, args := #[] } :: a.defers } W1) :
    (Code.rangeFunc g #[psl] assign body).wpIn Fence.wide n P Q a w := by
  refine wp_range_x hg eg hseq (fun _ => rfl) I (fun x a' W => ∃ Bx, w.heap.size + 2 ≤ Bx ∧ W.heap[Bx]? = some (.cells (cs x) t (0, 0)) ∧ a' = { tmps := (a.tmps.setIfInBounds psl (v x)).setIfInBounds bs (.pointer (some ⟨Bx, 0, none⟩)), defers := [] })
    hR hO hA hE hS ?_ h0 ?_ ?_ hdone
  · rintro x a' W1 W2 ⟨Bx, h1, h2, h3⟩ tt
    exact ⟨Bx, h1, (tt.block Bx (Array.getElem?_eq_some_iff.1 h2).1 (fun e => by omega)).trans h2, h3⟩
  · intro T pre x W1 K i z hK
    have e : ∀ tm : Array Value, Array.foldl (fun (t : Array Value) (x : Nat × Value) => t.setIfInBounds x.1 x.2) tm (#[psl].zip #[v x]) = tm.setIfInBounds psl (v x) := fun tm => by simp
    rw [e]
    exact hassign x W1 K fun Bx W2 e hb hx => hK _ _ e ⟨Bx, by omega, hb, rfl⟩
  · rintro T pre x a' W1 i ⟨Bx, h1, h2, rfl⟩ z hp
    exact hbody T pre x Bx W1 i h2 h1 z hp
end Go.Proofs.Ytifbmapianddcaa
