/- Equality of cells and of pairs of cells, as the program's operations have it. -/
import Derived.Test.YtifbmapianddcaaLib
import Derived.DeepKeys
namespace Go.Proofs.Ytifbmapianddcaa
open Go.RowKit

abbrev Cell := Int × Int

theorem und_cell : Try.prog.underlying 28 = some (.struct (Try.prog.fieldsOf 28)) := by kernel_rfl
theorem stood_cell : Try.prog.stoodInHeld 28 = false := by kernel_rfl

theorem eqIn_cell (d : Nat) (a b c e : Int) (w : World) : (Op.equalIn (d + 3) 28 (.agg #[.int .i64 a, .int .i64 b]) (.agg #[.int .i64 c, .int .i64 e])).run Try.prog w = .ok (a == c && b == e) w := by
  rw [run_equalIn_struct w (d + 2) 28 _ _ und_cell stood_cell]
  cases h : a == c <;> cases h' : b == e <;> simp [go_sem, h, h']

theorem und_pair : Try.prog.underlying 208 = some (.array 2 28) := by kernel_rfl

theorem info_cell : ∃ i, Try.prog.info? 28 = some i := info_of_underlying und_cell

theorem eqIn_pair (d : Nat) (a b a2 b2 c e c2 e2 : Int) (w : World) : (Op.equalIn (d + 4) 208 (.agg #[.int .i64 a, .int .i64 b, .int .i64 a2, .int .i64 b2]) (.agg #[.int .i64 c, .int .i64 e, .int .i64 c2, .int .i64 e2])).run Try.prog w = .ok ((a == c && b == e) && (a2 == c2 && b2 == e2)) w := by
  obtain ⟨i, hi⟩ := info_cell
  have hcells : Try.prog.cellsOf 28 = 2 := by kernel_rfl
  rw [run_equalIn_array w (d + 3) _ _ und_pair hi, hcells]
  by_cases h1 : a = c <;> by_cases h2 : b = e <;> by_cases h3 : a2 = c2 <;> by_cases h4 : b2 = e2 <;> simp [Op.eqItems, List.range_succ, go_sem, h1, h2, h3, h4]

def cellB (p q : Cell) : Bool := p.1 == q.1 && p.2 == q.2
theorem cellB_eq (p q : Cell) : cellB p q = decide (p = q) := by
  rw [Bool.eq_iff_iff]; simp [cellB, Prod.ext_iff]
def pairB (p q : Cell × Cell) : Bool := cellB p.1 q.1 && cellB p.2 q.2
theorem pairB_eq (p q : Cell × Cell) : pairB p q = decide (p = q) := by
  rw [Bool.eq_iff_iff]; simp [pairB, cellB_eq, Prod.ext_iff]
theorem eq_pair (p q : Cell × Cell) (w : World) : (Op.equalIn 10000 208 (.agg #[.int .i64 p.1.1, .int .i64 p.1.2, .int .i64 p.2.1, .int .i64 p.2.2]) (.agg #[.int .i64 q.1.1, .int .i64 q.1.2, .int .i64 q.2.1, .int .i64 q.2.2])).run Try.prog w = .ok (pairB p q) w := eqIn_pair 9996 _ _ _ _ _ _ _ _ w
theorem eq_cell (p q : Cell) (w : World) : (Op.equalIn 10000 28 (.agg #[.int .i64 p.1, .int .i64 p.2]) (.agg #[.int .i64 q.1, .int .i64 q.2])).run Try.prog w = .ok (cellB p q) w := eqIn_cell 9997 _ _ _ _ w
end Go.Proofs.Ytifbmapianddcaa
