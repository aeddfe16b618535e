/- A range over a function whose list is not known ahead (maps.Keys): the iterator has one block of its own, the first that it lays. -/
import Derived.Test.YtifbmapianddcaaLib
set_option linter.all false
set_option linter.unusedVariables false
set_option linter.unusedSimpArgs false
namespace Go.Proofs.Ytifbmapianddcaa
open Go.RowKit

/-- The iterator's word: its own block is the first that it lays; Pre: what may have come, Fin: what has come at the end. -/
def IterM {α : Type} (P : Program) (gf : Nat) (lb : Array Value) (encs : α → Array Value) (Pre Fin : List α → Prop) (R : Nat → Prop) (w : World) : Prop :=
  ∀ (l : Nat) (J : List α → World → Prop) (W : World), Ext w W →
    (∀ pre W1 W2, J pre W1 → Touch (fun k => k = W.heap.size) W1 W2 → J pre W2) →
    (∀ pre x W1, J pre W1 → W.heap.size < W1.heap.size → Pre (pre ++ [x]) → YieldAt Fence.wide 2 P l (encs x) W1 fun e W' => e = .returned (.bool true) ∧ J (pre ++ [x]) W' ∧ Touch (fun k => k ≠ W.heap.size ∧ ¬ R k) W1 W') →
    J [] W →
    Calls P gf (#[.func (.yield l) #[] #[]] ++ lb) W fun e W' => (∃ v, e = .returned v) ∧ ∃ xs, Fin xs ∧ J xs W'

theorem wp_range_m {α : Type} {P : Program} {n : Nat} {g : Operand} {ps : Array Tmp} {assign body : Code} {Q : Exit → Act → World → Prop} {a : Act} {w : World} {gf : Nat} {lb : Array Value} {encs : α → Array Value} {Pre Fin : List α → Prop} {R : Nat → Prop}
    (hg : a.eval g = .func (.func gf) #[] lb) (eg : ∀ args w, (callFunc gf args).run P w = .ok (.enter gf args) w) (hseq : IterM P gf lb encs Pre Fin R w) (hps : ∀ x, (encs x).size = ps.size)
    (I : List α → World → Prop) (Ax : α → Act → World → Prop) (hR : ∀ k, R k → k < w.heap.size)
    (hO : ∀ pre W1 W2, I pre W1 → Touch (fun k => k = w.heap.size ∨ k = w.heap.size + 1 ∨ k = w.heap.size + 2) W1 W2 → I pre W2)
    (hAx : ∀ x a' W1 W2, Ax x a' W1 → Touch (fun k => k = w.heap.size ∨ k = w.heap.size + 1 ∨ k = w.heap.size + 2) W1 W2 → Ax x a' W2)
    (h0 : I [] w)
    (hassign : ∀ pre x W1 (K : Act → World → Prop), I pre W1 → w.heap.size + 3 ≤ W1.heap.size → (∀ a' W2, Ext W1 W2 → I pre W2 → Ax x a' W2 → K a' W2) →
      assign.wpIn (Fence.wide.inRound (w.heap.size + 1)) 2 P (Exit.then K (fun _ _ _ => False)) { tmps := (ps.zip (encs x)).foldl (fun t (p, v) => t.setIfInBounds p v) a.tmps, defers := [] } W1)
    (hbody : ∀ pre x a' W1, I pre W1 → Ax x a' W1 → w.heap.size + 3 ≤ W1.heap.size → Pre (pre ++ [x]) → body.wpIn (Fence.wide.inRound (w.heap.size + 1)) 2 P
      (fun e _ W2 => e = .normal ∧ I (pre ++ [x]) W2 ∧ Touch (fun k => ¬ R k ∧ k ≠ w.heap.size ∧ k ≠ w.heap.size + 1 ∧ k ≠ w.heap.size + 2) W1 W2) a' W1)
    (hdone : ∀ xs W1, Fin xs → I xs W1 → W1.heap[w.heap.size]? = some (.deferred (some [])) → Q .normal { a with defers := { target := .collected w.heap.size, args := #[] } :: a.defers } W1) :
    (Code.rangeFunc g ps assign body).wpIn Fence.wide n P Q a w := by
  refine wpIn_rangeFunc ?_
  intro fn hfn
  obtain ⟨rec, hrec⟩ : ∃ rec : LoopState → Option Code → Loop, rec = fun st pe => { state := st, pending := pe, fn, tmps := a.tmps, params := ps, assign, body, defers := w.heap.size } := ⟨_, rfl⟩
  obtain ⟨W1, hW1⟩ : ∃ W1, (w.alloc (.deferred (some []))).alloc (.loop (rec .ready none)) = W1 := ⟨_, rfl⟩
  have hL1 : W1.heap[w.heap.size + 1]? = some (.loop (rec .ready none)) := by
    rw [← hW1]; have := World.alloc_heap_new (w.alloc (.deferred (some []))) (.loop (rec .ready none)); rwa [World.size_alloc] at this
  have hK1 : W1.heap[w.heap.size]? = some (.deferred (some [])) := by
    rw [← hW1]; exact (Below.heap_alloc _ _ _ (by simp)).trans (World.alloc_heap_new w _)
  have hx1 : Ext w W1 := by rw [← hW1]; exact ((Ext.refl w).alloc _).alloc _
  have hz1 : W1.heap.size = w.heap.size + 2 := by rw [← hW1]; simp
  have hI1 : I [] W1 := hO _ _ _ h0 (Touch.of_ext hx1)
  refine ⟨w.heap.size + 1, [{ target := .collected w.heap.size, args := #[] }], W1, { target := .fn (.func gf) lb, args := #[.func (.yield (w.heap.size + 1)) #[] #[]] }, W1, gf,
    #[.func (.yield (w.heap.size + 1)) #[] #[]] ++ lb, W1, ?_, ?_, ?_, ?_, fun h => by simp [Fence.wide] at h, ?_⟩
  · rw [← hW1, hrec]; exact run_enterLoop_outer _ _ _ _ _
  · simp only [resolve, hg]
    simp [go_sem]
  · intro f' _; exact trivial
  · simp [invoke, go_sem, eg]
  · refine callsIn_wide.2 ((hseq (w.heap.size + 1)
      (fun pre W => I pre W ∧ w.heap.size + 2 ≤ W.heap.size ∧ W.heap[w.heap.size + 1]? = some (.loop (rec .ready none)) ∧ W.heap[w.heap.size]? = some (.deferred (some [])))
      W1 hx1 ?_ ?_ ⟨hI1, by omega, hL1, hK1⟩).mono ?_)
    · rintro pre W W' ⟨i, z, hl, hk⟩ t
      exact ⟨hO _ _ _ i (t.mono (fun k _ h => .inr (.inr (by rw [h, hz1])))), Nat.le_trans z t.size, (t.block _ (by omega) (by omega)).trans hl, (t.block _ (by omega) (by omega)).trans hk⟩
    · rintro pre x W ⟨i, z, hl, hk⟩ hz hpre
      rw [hz1] at hz
      have hy := run_yield (P := P) (args := encs x) hl (by rw [hrec]; exact hps x)
      rw [hrec] at hy
      refine ⟨fn, _, assign, body, hy, roundIn_of_wpIn hfn (hassign pre x W _ i hz ?_)⟩
      clear hy
      intro a' W2 e2 i2 ax
      have hl2 := (e2.block (k := w.heap.size + 1) (by omega)).trans hl
      have hk2 := (e2.block (k := w.heap.size) (by omega)).trans hk
      have z2 := Nat.le_trans hz e2.size
      refine ⟨_, run_beginRound hl2 (by rw [hrec]), ?_⟩
      obtain ⟨W3, hW3⟩ : ∃ W3, W2.putObj (w.heap.size + 1) (.loop { rec .ready none with state := .busy }) = W3 := ⟨_, rfl⟩
      have t3 : Touch (fun k => k = w.heap.size + 1) W2 W3 := by rw [← hW3]; exact touch_putObj _ _
      have hl3 : W3.heap[w.heap.size + 1]? = some (.loop { rec .ready none with state := .busy }) := by rw [← hW3]; exact World.putObj_heap_same (by omega)
      have hk3 : W3.heap[w.heap.size]? = some (.deferred (some [])) := (t3.block _ (by omega) (by omega)).trans hk2
      have i3 := hO _ _ _ i2 (t3.mono (fun k _ h => .inr (.inl h)))
      have ax3 := hAx _ _ _ _ ax (t3.mono (fun k _ h => .inr (.inl h)))
      have z3 := Nat.le_trans z2 t3.size
      rw [hW3]
      refine wpIn_mono (hbody pre x a' W3 i3 ax3 z3 hpre) ?_
      rintro e a4 W4 ⟨rfl, i4, t4⟩
      have hl4 := (t4.block (w.heap.size + 1) (by omega) (fun h => h.2.2.1 rfl)).trans hl3
      have hk4 := (t4.block w.heap.size (by omega) (fun h => h.2.1 rfl)).trans hk3
      have z4 := Nat.le_trans z3 t4.size
      have hr := run_endRound (P := P) none hl4
      rw [hrec] at hr
      have t5 : Touch (fun k => k = w.heap.size + 1) W4 (W4.putObj (w.heap.size + 1) (.loop (rec .ready none))) := touch_putObj _ _
      refine ⟨_, _, hr, rfl, ⟨?_, ?_, ?_, ?_⟩, ?_⟩
      · have := hO _ _ _ i4 (t5.mono (fun k _ h => .inr (.inl h)))
        rw [hrec] at this
        exact this
      · simp; omega
      · rw [hrec]; exact World.putObj_heap_same (by omega)
      · exact (World.putObj_heap_other (by omega)).trans hk4
      · rw [hz1]
        have t6 := ((Touch.of_ext (S := fun k => k ≠ w.heap.size + 2 ∧ ¬ R k) e2).trans (t3.mono (fun k _ h => by subst h; exact ⟨by omega, fun hr => by have := hR _ hr; omega⟩))).trans (t4.mono (S' := fun k => k ≠ w.heap.size + 2 ∧ ¬ R k) (fun k _ h => ⟨h.2.2.2, h.1⟩))
        have t7 := t6.trans (t5.mono (S' := fun k => k ≠ w.heap.size + 2 ∧ ¬ R k) (fun k _ h => by subst h; exact ⟨by omega, fun hr => by have := hR _ hr; omega⟩))
        rw [hrec] at t7
        exact t7
    · rintro e W2 ⟨⟨v, rfl⟩, xs, F, i, z, hl, hk⟩
      refine ⟨none, _, by have := run_endLoop (P := P) hl (by rw [hrec]; simp); rw [hrec] at this; exact this, ?_⟩
      exact hdone xs _ F (hO _ _ _ i ((touch_putObj (w.heap.size + 1) _).mono (fun k _ h => .inr (.inl h)))) ((World.putObj_heap_other (by omega)).trans hk)
end Go.Proofs.Ytifbmapianddcaa
