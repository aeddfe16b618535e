/- make([]T, n) of one-cell elements, as a row of the call's own. -/
import Derived.Test.YtifbmapianddcaaBox
import Derived.OwnWalk
namespace Go.Proofs.Ytifbmapianddcaa
open Go.RowKit

theorem made_one (z : Value) (hz : z.cells = #[z]) (n : Nat) : (madeCells z.cells (n * 1)).toList = List.replicate n z := by
  unfold madeCells
  rw [hz, Nat.mul_one]
  apply List.ext_getElem?
  intro i
  simp only [Array.toList_map, Array.toList_range, List.getElem?_map]
  by_cases h : i < n
  · rw [List.getElem?_range h, List.getElem?_replicate, if_pos h]
    simp [Nat.mod_one]
  · rw [List.getElem?_eq_none (by simpa using h), List.getElem?_eq_none (by simpa using h)]
    rfl

theorem wpList_make_one {α : Type} (E : Enc α) {P : Program} {t e : TypeId} {z : Value} {bytes : Nat} (T : ElemT P t e z E.size bytes) (zero : α) (h1 : E.size = 1) (hzc : z.cells = #[z]) (hE : E.cells zero = [z])
    {ops : Array Oper} {rest : List Oper} {o : Oper} {a : Act} {Q : Exit → Act → World → Prop} {w : World}
    (hg : o.guard = none) (l c : Operand) (hop : o.op = Op.makeSlice t l c) (base n : Nat) (hl : a.eval l = .int .i64 (n : Int)) (hc : a.eval c = .int .i64 (n : Int)) (hn : n ≤ 100000) (hby : bytes ≤ 1000) (b4 : base ≤ w.heap.size)
    (hK : ∀ g w', g = w.heap.size → Own E w' base e (.slice (some ⟨g, 0, none⟩) n n) (List.replicate n zero) → Ext w w' → wpList P ops Q rest (a.put o.dst (.slice (some ⟨g, 0, none⟩) n n)) w') :
    wpList P ops Q (o :: rest) a w := by
  obtain ⟨i0, hi, hz0, hz1, hz2⟩ := info_parts T.info
  have hb : bytes * n ≤ 281474976710656 := Nat.le_trans (Nat.mul_le_mul hby hn) (by decide)
  refine wpList_make_full w hg l c t hop base e i0 z E.size T.under hi hz0 hz1 .i64 .i64 _ _ n hl hc rfl rfl (by rw [hz2]; exact hb) (by unfold maxLen; omega) b4 ?_
  intro w' hown hgrow
  refine hK w.heap.size w' rfl ?_ ((Ext.refl w).grown hgrow (by simp))
  unfold Own
  rw [List.length_replicate]
  have hf : (List.replicate n zero).flatMap E.cells = (madeCells z.cells (n * E.size)).toList := by
    rw [h1, made_one z hzc n]
    clear hown hgrow hb hK hl hc hn
    induction n with
    | zero => rfl
    | succ n ih => rw [List.replicate_succ, List.flatMap_cons, hE, List.replicate_succ, ih]; rfl
  rw [hf]
  exact hown
end Go.Proofs.Ytifbmapianddcaa
