/- A box, and a way's two ends, that came in as data. -/
import Derived.Test.YtkonojjillcfiaaArgF
namespace Go.Proofs.Ytkonojjillcfiaa
open Go.RowKit Go.ChangeShapes Go.WideShapes Go.ChangeAt
section
variable {H : Type} {enc : TypeId × Value → H} {w : World} {r : Reach} {base b0 : Nat} {spare : Nat → Bool} {held : Bool}

set_option maxRecDepth 100000 in
theorem cells_box : Try.prog.cellsOf 75 = 4 := by kernel_rfl
set_option maxRecDepth 100000 in
theorem open_box {v : Value} {d : DataW H} {p : List MemPlace} (hv : Value.okWide Try.prog w r b0 75 v) (h : DataW.Trod enc Try.prog w base spare held 75 v d p) : ∃ x y z u, v = .agg #[.int .i64 x, .int .i64 y, .int .i64 z, .int .i64 u] ∧ InI x ∧ InI y ∧ InI z ∧ InI u := by
  obtain ⟨cs, rfl, hsz⟩ := okWide_struct Try.underlying75 hv
  obtain ⟨l⟩ := cs
  rw [cells_box] at hsz
  match l, hsz with
  | [c0, c1, c2, c3], _ =>
    obtain ⟨fuel, hf⟩ := h
    obtain ⟨xs, n, _, _, _, hlen, hf⟩ := DataW.trod_struct Try.underlying75 hf
    match xs, hlen with
    | [y0, y1, y2, y3], _ =>
      obtain ⟨a, rfl, ha⟩ := one_int (v := c0) (hf 0 _ rfl)
      obtain ⟨b, rfl, hb⟩ := one_int (v := c1) (hf 1 _ rfl)
      obtain ⟨c, rfl, hc⟩ := one_int (v := c2) (hf 2 _ rfl)
      obtain ⟨e, rfl, he⟩ := one_int (v := c3) (hf 3 _ rfl)
      exact ⟨a, b, c, e, rfl, ha, hb, hc, he⟩

set_option maxRecDepth 100000 in
theorem cells_ends08 : Try.prog.cellsOf 85 = 4 := by kernel_rfl
set_option maxRecDepth 100000 in
theorem open_ends08 {v : Value} {d : DataW H} {p : List MemPlace} (hv : Value.okWide Try.prog w r b0 85 v) (h : DataW.Trod enc Try.prog w base spare held 85 v d p) : ∃ x y z u, v = .agg #[.int .i64 x, .int .i64 y, .int .i64 z, .int .i64 u] ∧ InI x ∧ InI y ∧ InI z ∧ InI u := by
  obtain ⟨cs, rfl, hsz⟩ := okWide_struct Try.underlying85 hv
  obtain ⟨l⟩ := cs
  rw [cells_ends08] at hsz
  match l, hsz with
  | [c0, c1, c2, c3], _ =>
    obtain ⟨fuel, hf⟩ := h
    obtain ⟨xs, n, _, _, _, hlen, hf⟩ := DataW.trod_struct Try.underlying85 hf
    match xs, hlen with
    | [y0, y1], _ =>
      obtain ⟨a, b, rfl, rfl, ha, hb⟩ := trod_two (c0 := c0) (c1 := c1) Try.underlying49 ⟨rfl, rfl⟩ ⟨rfl, rfl⟩ (hf 0 _ rfl)
      obtain ⟨c, e, rfl, rfl, hc, he⟩ := trod_two (c0 := c2) (c1 := c3) Try.underlying49 ⟨rfl, rfl⟩ ⟨rfl, rfl⟩ (hf 1 _ rfl)
      exact ⟨a, b, c, e, rfl, ha, hb, hc, he⟩
end
end Go.Proofs.Ytkonojjillcfiaa
