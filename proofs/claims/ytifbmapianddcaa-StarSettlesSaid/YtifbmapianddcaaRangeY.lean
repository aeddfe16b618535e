/- append inside a round: where the new row lies. -/
import Derived.Test.YtifbmapianddcaaTouch
import Derived.OwnWalkIn
import Derived.Maps.AppendAt
namespace Go.Proofs.Ytifbmapianddcaa
open Go.RowKit

theorem wpListIn_app_at {α : Type} (E : Enc α) {Fc : Fence} {n : Nat} {P : Program} {t e : TypeId} {z : Value} {bytes : Nat} (T : ElemT P t e z E.size bytes) {ops : Array Oper} {rest : List Oper} {o : Oper} {a : Act} {Q : Exit → Act → World → Prop}
    (hgd : o.guard = none) (s x : Operand) (ho : o.op = .call { callee := .builtin .append, args := #[s, x], argTypes := #[t, t] })
    (base : Nat) (w : World) (v : Value) (l : List α) (hs : a.eval s = v) (hown : Own E w base e v l)
    (y : α) (cs : Array Value) (e' : TypeId) (hcs : cs = (E.cells y).toArray) (b : Nat) (hb : b = w.heap.size) (hx : a.eval x = .slice (some ⟨b, 0, none⟩) 1 1)
    (hlen : (l.length + 1) * bytes ≤ 140737488355328) (hl : l.length ≤ 1000000000) (hbase : base ≤ w.heap.size)
    (h : ∀ g c w', Own E w' base e (.slice (some ⟨g, 0, none⟩) (l.length + 1) c) (l ++ [y]) → Touch (fun k => v.ownBlock = some k) w w' → (v.ownBlock = some g ∨ w.heap.size ≤ g) → wpListIn Fc n P ops Q rest (a.put o.dst (.slice (some ⟨g, 0, none⟩) (l.length + 1) c)) w') : wpListIn Fc n P ops Q (o :: rest) a (w.alloc (.cells cs e')) := by
  subst hb
  obtain ⟨i0, hi, hz0, hz1, hz2⟩ := info_parts T.info
  have hnews := cells_new w cs e'
  subst hcs
  refine wpListIn_plain hgd fun K hK' => ?_
  obtain ⟨v', w', hrun, r1, r2, r3, r4⟩ := run_append_own_at (P := P) (w.alloc (.cells (E.cells y).toArray e')) base t o.type e i0 z E.size bytes T.under hi hz0 hz1 hz2 T.zs T.pos v l.length (l.flatMap E.cells) (World.ownsRow.alloc hown _) ⟨w.heap.size, 0, none⟩ 1 1 (E.cells y) (by simp [E.len]) (by simpa using hnews) (E.one y) (by unfold maxLen; omega) hlen (by simp; omega)
  have hown'' : Own E w' base e v' (l ++ [y]) := by unfold Own; simpa using r1
  obtain ⟨g, c, rfl⟩ := hown''.cons
  have key := h g c w' hown'' (((Touch.refl _ w).alloc _).grown r2 (fun k hk => .inl hk)) (by
    simp only [Value.ownBlock, World.size_alloc, Option.some.injEq] at r4
    rcases r4 with r4 | r4
    · exact .inl r4.symm
    · exact .inr (by omega))
  unfold Oper.wpIn
  refine ⟨?_, ?_⟩
  · simp [Oper.about, ho, resolve, Target.leads, Sem.run_pure]
  · rw [Oper.semAt_plain Fc _ _ (by rw [ho]; intro c hc'; cases hc')]
    simp [execOp, ho, resolve, invoke, builtin, hs, hx, hrun, Result.andThen]
    exact hK' _ _ key
end Go.Proofs.Ytifbmapianddcaa
