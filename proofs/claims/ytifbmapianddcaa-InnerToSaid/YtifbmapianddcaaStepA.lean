/- append to a row of the call's own, as one step of a region that draws its order. -/
import Derived.Test.YtifbmapianddcaaLib
import Derived.Deep.AppendLies
namespace Go.Proofs.Ytifbmapianddcaa
open Go.RowKit

theorem step_app {α : Type} (E : Enc α) {P : Program} {t e : TypeId} {z : Value} {bytes : Nat} (T : ElemT P t e z E.size bytes) {ops : Array Oper} {o : Oper} {a : Act} {K : Act → World → Prop} {Q : Exit → Act → World → Prop} {F : Prop}
    (hgd : o.guard = none) (s x : Operand) (ho : o.op = .call { callee := .builtin .append, args := #[s, x], argTypes := #[t, t] })
    (base : Nat) (w : World) (v : Value) (l : List α) (hs : a.eval s = v) (hown : Own E w base e v l)
    (y : α) (cs : Array Value) (e' : TypeId) (hcs : cs = (E.cells y).toArray) (b : Nat) (hb : b = w.heap.size) (hx : a.eval x = .slice (some ⟨b, 0, none⟩) 1 1)
    (hlen : (l.length + 1) * bytes ≤ 140737488355328) (hl : l.length ≤ 1000000000) (hbase : base ≤ w.heap.size)
    (h : ∀ g c w', Own E w' base e (.slice (some ⟨g, 0, none⟩) (l.length + 1) c) (l ++ [y]) → Below base w w' → K (a.put o.dst (.slice (some ⟨g, 0, none⟩) (l.length + 1) c)) w') :
    if Region.wanted o (yielded ops a.tmps) = true then Oper.wp P o a (w.alloc (.cells cs e')) K Q else F := by
  subst hb
  obtain ⟨i0, hi, hz0, hz1, hz2⟩ := info_parts T.info
  have hnews := cells_new w cs e'
  subst hcs
  refine step_append_lies _ hgd s x t ho base e i0 z E.size bytes T.under hi hz0 hz1 hz2 T.zs T.pos v l.length (l.flatMap E.cells) hs (World.ownsRow.alloc hown _) ⟨w.heap.size, 0, none⟩ 1 1 (E.cells y) hx (by simp [E.len]) (by simpa using hnews) (E.one y) (by omega) (by unfold maxLen; omega) hlen (by simp; omega) _ rfl ?_
  intro g c w' hown' hg _ _
  have hown'' : Own E w' base e (.slice (some ⟨g, 0, none⟩) (l.length + 1) c) (l ++ [y]) := by unfold Own; simpa using hown'
  refine h g c w' hown'' ?_
  refine (((Below.refl base w).alloc hbase _).grown hg (by simp; omega) ?_)
  intro k hk
  exact (World.ownsRow.lt hown k hk).1
end Go.Proofs.Ytifbmapianddcaa
