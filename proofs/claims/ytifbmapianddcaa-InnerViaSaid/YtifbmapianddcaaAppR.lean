/- append of what is read, be it nothing. -/
import Derived.Test.YtifbmapianddcaaInB
import Derived.Laws.AppendOwnNone
set_option linter.all false
set_option linter.unusedVariables false
set_option linter.unusedSimpArgs false
namespace Go.Proofs.Ytifbmapianddcaa
open Go.RowKit

theorem wpList_app_reads {α : Type} (E : Enc α) {P : Program} {t e : TypeId} {z : Value} {bytes : Nat} (T : ElemT P t e z E.size bytes) {ops : Array Oper} {rest : List Oper} {o : Oper} {a : Act} {Q : Exit → Act → World → Prop} {w : World}
    (hgd : o.guard = none) (s x : Operand) (ho : o.op = .call { callee := .builtin .append, args := #[s, x], argTypes := #[t, t] })
    (base : Nat) (v : Value) (l1 l2 : List α) (hs : a.eval s = v) (hown : Own E w base e v l1) (u : Value) (hx : a.eval x = u) (hc : Reads E w u l2)
    (hlen : (l1.length + l2.length) * bytes ≤ 140737488355328) (hl : l1.length + l2.length ≤ 1000000000) (hbase : base ≤ w.heap.size)
    (h : ∀ v' w', Own E w' base e v' (l1 ++ l2) → Below base w w' → wpList P ops Q rest (a.put o.dst v') w') : wpList P ops Q (o :: rest) a w := by
  rcases hc with ⟨rfl, rfl⟩ | ⟨b, off, cap, rfl, hb, hc⟩
  · obtain ⟨i0, hi, _, _, _⟩ := info_parts T.info
    refine wpList_append_own_none hgd s x t ho base e i0 E.size T.under hi v l1.length (l1.flatMap E.cells) hs hown hx ?_
    exact h v w (by rw [List.append_nil]; exact hown) (Below.refl base w)
  · exact wpList_app_more E T hgd s x ho base v l1 l2 hs hown b off cap hx hc hlen hl hbase h

/-- append of cells that came in to an empty row. -/
theorem wpList_app_rowc {ops : Array Oper} {rest : List Oper} {o : Oper} {a : Act} {Q : Exit → Act → World → Prop} {w : World}
    (hgd : o.guard = none) (s x : Operand) (ho : o.op = .call { callee := .builtin .append, args := #[s, x], argTypes := #[37, 37] })
    (base : Nat) (v : Value) (hs : a.eval s = v) (hown : Own cellE w base 28 v []) (ca : Option Addr) (l : List Cell) (c : Nat) (hx : a.eval x = .slice ca l.length c) (hr : RowC w ca l) (hn : ca = none → c = 0)
    (hl : l.length ≤ 1000000) (hbase : base ≤ w.heap.size)
    (h : ∀ v' w', Own cellE w' base 28 v' l → Below base w w' → wpList Try.prog ops Q rest (a.put o.dst v') w') : wpList Try.prog ops Q (o :: rest) a w := by
  by_cases h0 : 0 < l.length
  · obtain ⟨b, off, rfl, hb, hc⟩ := hr h0
    exact wpList_app_more cellE T_cells hgd s x ho base v [] l hs hown b off c hx (Reads.cells (hr.reads h0 c)).2.2 (by simp; omega) (by simp; omega) hbase h
  · obtain rfl : l = [] := List.length_eq_zero_iff.1 (by omega)
    cases ca with
    | none =>
      obtain rfl := hn rfl
      obtain ⟨i0, hi, _, _, _⟩ := info_parts T_cells.info
      exact wpList_append_own_none hgd s x _ ho base _ i0 cellE.size T_cells.under hi v 0 [] hs hown hx (h v w hown (Below.refl base w))
    | some ad => exact wpList_app_none cellE T_cells hgd s x ho base v hs hown ad c hx hbase h
end Go.Proofs.Ytifbmapianddcaa
