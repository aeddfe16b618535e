/- Arguments that came in as data, opened: fields of costs, and arrays of two numbers. -/
import Derived.Test.YtkonojjillcfiaaArgs
import Derived.Test.YtkonojjillcfiaaField
import Derived.Deep.Slices
namespace Go.Proofs.Ytkonojjillcfiaa
open Go.RowKit Go.ChangeShapes Go.WideShapes Go.ChangeAt

section
variable {H : Type} {enc : TypeId × Value → H} {w : World} {r : Reach} {base b0 : Nat} {spare : Nat → Bool} {held : Bool}

/-- What came in as a field. -/
def FieldV (w : World) (W Hh : Int) (a : Option Addr) (l : List Int) : Prop := InI W ∧ InI Hh ∧ (l.length : Int) ≤ 9223372036854775807 ∧ Row16 w a l ∧ U16s l

set_option maxRecDepth 100000 in
theorem cells_field : Try.prog.cellsOf 26 = 3 := by kernel_rfl
set_option maxRecDepth 100000 in
theorem cells_u16 : Try.prog.cellsOf 70 = 1 := by kernel_rfl

theorem row16_of {a : Addr} {len : Nat} {zs : List Int} (hlen : len ≤ zs.length) (hc : ∀ i, i < zs.length → w.cell? (a.add i) = some (.int .u16 (zs.getD i 0))) (hw : ∀ n ∈ zs, (Lit.int .u16 n).wf = true) : (zs.take len).length = len ∧ Row16 w (some a) (zs.take len) ∧ U16s (zs.take len) := by
  have hl : (zs.take len).length = len := by rw [List.length_take]; omega
  refine ⟨hl, fun h0 => ?_, fun x hx => ?_⟩
  · obtain ⟨b, off, spot⟩ := a
    have z0 := hc 0 (by omega)
    have hspot : spot = none := by simpa [Addr.add] using World.cell?_spot z0
    subst hspot
    have z0' : w.cell? ⟨b, off, none⟩ = some (.int .u16 (zs.getD 0 0)) := by simpa [Addr.add] using z0
    refine ⟨b, off, rfl, World.block_lt_of_cell? w _ z0', fun k hk => ?_⟩
    have := hc k (by omega)
    rw [Addr.add_lit] at this
    rw [this]
    have hk' : k < zs.length := by omega
    simp [List.getD_eq_getElem?_getD, hk']
  · have hmem : x ∈ zs := List.mem_of_mem_take hx
    have h := hw x hmem
    have hmin : IntKind.u16.min = 0 := rfl
    have hmax : IntKind.u16.max = 65535 := rfl
    simp only [Lit.wf, Bool.and_eq_true, decide_eq_true_eq] at h
    omega

set_option maxRecDepth 100000 in
theorem open_field {v : Value} {d : DataW H} {p : List MemPlace} (hv : Value.okWide Try.prog w r b0 26 v) (h : DataW.Trod enc Try.prog w base spare held 26 v d p) :
    ∃ W Hh a l c, v = .agg #[.int .i64 W, .int .i64 Hh, .slice a (List.length l) c] ∧ FieldV w W Hh a l := by
  obtain ⟨cs, rfl, hsz⟩ := okWide_struct Try.underlying26 hv
  obtain ⟨l⟩ := cs
  rw [cells_field] at hsz
  match l, hsz with
  | [c0, c1, c2], _ =>
    obtain ⟨fuel, hf⟩ := h
    obtain ⟨xs, n, _, _, _, hlen, hf⟩ := DataW.trod_struct Try.underlying26 hf
    match xs, hlen with
    | [y0, y1], _ =>
      have h0 := hf 0 _ rfl
      have h1 := hf 1 _ rfl
      obtain ⟨a, b, rfl, rfl, ha, hb⟩ := trod_two (c0 := c0) (c1 := c1) Try.underlying23 ⟨rfl, rfl⟩ ⟨rfl, rfl⟩ h0
      have h1' : DataW.trod enc Try.prog w base spare held n 24 [c2] = some y1 := h1
      rcases open_ints Try.underlying24 Try.underlying70 cells_u16 h1' with ⟨hc, _⟩ | ⟨ad, len, cap, zs, hc, _, hl, hm, hz, _, hcell, hwz⟩
      · simp at hc
        subst hc
        exact ⟨a, b, none, [], 0, rfl, ha, hb, by simp, fun h => by simp at h, fun x hx => by simp at hx⟩
      · simp at hc
        subst hc
        have hle : len ≤ zs.length := by rw [hz]; split <;> omega
        obtain ⟨q1, q2, q3⟩ := row16_of hle hcell hwz
        refine ⟨a, b, some ad, zs.take len, cap, by rw [q1], ha, hb, ?_, q2, q3⟩
        rw [q1]; unfold maxLen at hm; omega

set_option maxRecDepth 100000 in
theorem cells_arr2 : Try.prog.cellsOf 29 = 2 := by kernel_rfl
set_option maxRecDepth 100000 in
theorem okWide_arr {n : Nat} {e t : TypeId} {v : Value} (ht : Try.prog.underlying t = some (.array n e)) (h : Value.okWide Try.prog w r b0 t v) : ∃ cs, v = .agg cs ∧ cs.size = Try.prog.cellsOf t := by
  simp only [Value.okWide, ht] at h
  obtain ⟨cs, h1, h2, _⟩ := h
  exact ⟨cs, h1, h2⟩
set_option maxRecDepth 100000 in
theorem open_arr2 {v : Value} {d : DataW H} {p : List MemPlace} (hv : Value.okWide Try.prog w r b0 29 v) (h : DataW.Trod enc Try.prog w base spare held 29 v d p) : ∃ x y, v = .agg #[.int .i64 x, .int .i64 y] ∧ InI x ∧ InI y := by
  obtain ⟨cs, rfl, hsz⟩ := okWide_arr Try.underlying29 hv
  obtain ⟨l⟩ := cs
  rw [cells_arr2] at hsz
  match l, hsz with
  | [c0, c1], _ =>
    obtain ⟨fuel, hf⟩ := h
    obtain ⟨xs, n, _, _, _, hlen, hf⟩ := DataW.trod_array Try.underlying29 hf
    match xs, hlen with
    | [y0, y1], _ =>
      have hc : Try.prog.cellsOf 3 = 1 := by kernel_rfl
      have h0 := hf 0 (by omega)
      have h1 := hf 1 (by omega)
      rw [hc] at h0 h1
      obtain ⟨a, rfl, ha⟩ := one_int (v := c0) h0
      obtain ⟨b, rfl, hb⟩ := one_int (v := c1) h1
      exact ⟨a, b, rfl, ha, hb⟩
end
end Go.Proofs.Ytkonojjillcfiaa
