/- What the statements of layer 13 are given, that came in as data: a cluster, cells of it, and one cell; parts. -/
import Derived.Test.YtifbmapianddcaaArgF
import Derived.Test.YtifbmapianddcaaRowC
set_option linter.all false
set_option linter.unusedVariables false
set_option linter.unusedSimpArgs false
namespace Go.Proofs.Ytifbmapianddcaa
open Go.RowKit Go.ChangeShapes Go.WideShapes Go.ChangeAt
section
variable {H : Type} {enc : TypeId × Value → H} {w : World} {r : Reach} {base b0 : Nat} {spare : Nat → Bool} {held : Bool}

set_option maxRecDepth 100000 in
theorem cells_int1 : Try.prog.cellsOf 3 = 1 := by kernel_rfl
theorem ini_wf {n : Int} (h : (Lit.int .i64 n).wf = true) : InI n := InI_wf h

set_option maxRecDepth 100000 in
theorem open_cells {fuel : Nat} {v : Value} {x : DataW H × List MemPlace} (h : DataW.trod enc Try.prog w base spare held fuel 37 [v] = some x) : ∃ a c l, v = .slice a (List.length l) c ∧ CellsV w a l ∧ (a = none → c = 0) := by
  rcases open_pairs2 Try.underlying37 Try.underlying28 cells_cell ⟨rfl, rfl⟩ ⟨rfl, rfl⟩ Try.underlying3 Try.underlying3 cells_int1 cells_int1 h with hc | ⟨a, len, cap, hc, hm, hp⟩
  · simp at hc
    subst hc
    exact ⟨none, 0, [], rfl, ⟨by simp, (fun h => by simp at h), fun p hp => by cases hp⟩, fun _ => rfl⟩
  · simp at hc
    subst hc
    by_cases h0 : 0 < len
    · obtain ⟨b, off, l, rfl, hb, hl, hk⟩ := hp h0
      refine ⟨_, cap, l, by rw [hl], ⟨by unfold maxLen at hm; omega, fun _ => ⟨b, off, rfl, hb, fun k hk' => (hk k hk').1⟩, fun p hp => ?_⟩, fun h => by cases h⟩
      obtain ⟨k, hkl, rfl⟩ := List.getElem_of_mem hp
      have h1 := (hk k hkl).2
      exact ⟨InI_wf h1.1, InI_wf h1.2⟩
    · obtain rfl : len = 0 := by omega
      refine ⟨a, cap, [], rfl, ⟨by simp, (fun h => by simp at h), fun p hp => by cases hp⟩, fun ha => ?_⟩
      subst ha
      rcases Go.Deep.open_slice Try.underlying37 h with ⟨hc, _⟩ | ⟨a', len', cap', m, n, D, Pl, hc, _⟩
      · simp at hc; exact hc
      · simp at hc

set_option maxRecDepth 100000 in
theorem cells_case13 : Try.prog.cellsOf 53 = 4 := by kernel_rfl
set_option maxRecDepth 100000 in
theorem cells_slc : Try.prog.cellsOf 37 = 1 := by kernel_rfl
set_option maxRecDepth 100000 in
theorem open_case13 {v : Value} {d : DataW H} {p : List MemPlace} (hv : Value.okWide Try.prog w r b0 53 v) (h : DataW.Trod enc Try.prog w base spare held 53 v d p) : ∃ id a c l x y, v = .agg #[.int .i64 id, .slice a (List.length l) c, .int .i64 x, .int .i64 y] ∧ InI id ∧ InI x ∧ InI y ∧ CellsV w a l ∧ (a = none → c = 0) := by
  obtain ⟨cs, rfl, hsz⟩ := okWide_struct Try.underlying53 hv
  obtain ⟨l⟩ := cs
  rw [cells_case13] at hsz
  match l, hsz with
  | [c0, c1, c2, c3], _ =>
    obtain ⟨fuel, hf⟩ := h
    obtain ⟨xs, n, _, _, _, hlen, hf⟩ := DataW.trod_struct Try.underlying53 hf
    match xs, hlen with
    | [y0, y1, y2], _ =>
      obtain ⟨a, rfl, ha⟩ := one_int (v := c0) (hf 0 _ rfl)
      obtain ⟨ad, cp, cl, rfl, hcl⟩ := open_cells (v := c1) (hf 1 _ rfl)
      obtain ⟨c, e, rfl, rfl, hc, he⟩ := trod_two (c0 := c2) (c1 := c3) Try.underlying28 ⟨rfl, rfl⟩ ⟨rfl, rfl⟩ (hf 2 _ rfl)
      exact ⟨a, ad, cp, cl, c, e, rfl, ha, hc, he, hcl⟩

set_option maxRecDepth 100000 in
theorem cells_one13 : Try.prog.cellsOf 75 = 5 := by kernel_rfl
set_option maxRecDepth 100000 in
theorem open_one13 {v : Value} {d : DataW H} {p : List MemPlace} (hv : Value.okWide Try.prog w r b0 75 v) (h : DataW.Trod enc Try.prog w base spare held 75 v d p) : ∃ id a c l x y z, v = .agg #[.int .i64 id, .slice a (List.length l) c, .int .i64 x, .int .i64 y, .int .i64 z] ∧ InI id ∧ InI x ∧ InI y ∧ InI z ∧ CellsV w a l ∧ (a = none → c = 0) := by
  obtain ⟨cs, rfl, hsz⟩ := okWide_struct Try.underlying75 hv
  obtain ⟨l⟩ := cs
  rw [cells_one13] at hsz
  match l, hsz with
  | [c0, c1, c2, c3, c4], _ =>
    obtain ⟨fuel, hf⟩ := h
    obtain ⟨xs, n, _, _, _, hlen, hf⟩ := DataW.trod_struct Try.underlying75 hf
    match xs, hlen with
    | [y0, y1], _ =>
      have h1 : DataW.trod enc Try.prog w base spare held n 53 [c0, c1, c2, c3] = some _ := hf 0 _ rfl
      obtain ⟨xs2, n2, _, _, _, hlen2, hf2⟩ := DataW.trod_struct Try.underlying53 h1
      match xs2, hlen2 with
      | [z0, z1, z2], _ =>
        obtain ⟨a, rfl, ha⟩ := one_int (v := c0) (hf2 0 _ rfl)
        obtain ⟨ad, cp, cl, rfl, hcl⟩ := open_cells (v := c1) (hf2 1 _ rfl)
        obtain ⟨c, e, rfl, rfl, hc, he⟩ := trod_two (c0 := c2) (c1 := c3) Try.underlying28 ⟨rfl, rfl⟩ ⟨rfl, rfl⟩ (hf2 2 _ rfl)
        obtain ⟨z, rfl, hz⟩ := one_int (v := c4) (hf 1 _ rfl)
        exact ⟨a, ad, cp, cl, c, e, z, rfl, ha, hc, he, hz, hcl⟩
end
end Go.Proofs.Ytifbmapianddcaa
