/- Arguments that came in as data, opened: structs of numbers by value; Arguments that came in as data, opened: fields of costs, and arrays of two numbers; Arguments that came in as data, opened: slices of structs of two numbers; A box, and a way's two ends, that came in as data; What the statements of layer 10 are given, that came in as data -/
import Derived.Test.YtkioohhjjdlhiaaGreatGeom
import Derived.ProofKit
import Derived.OpenShut
import Derived.ShutString
import Derived.ChangeOld
import Derived.Test.YtkioohhjjdlhiaaGreatField
import Derived.Deep.Slices
import Derived.Test.YtkioohhjjdlhiaaGreatLib
set_option linter.all false
set_option linter.unusedVariables false
set_option linter.unusedSimpArgs false
namespace Go.Proofs.YtkioohhjjdlhiaaGreat
open Go.RowKit Go.ChangeShapes Go.WideShapes Go.ChangeAt

section
variable {H : Type} {enc : TypeId × Value → H} {w : World} {r : Reach} {base b0 : Nat} {spare : Nat → Bool} {held : Bool}

theorem InI_wf {n : Int} (h : (Lit.int .i64 n).wf = true) : InI n := by
 have hmin : IntKind.i64.min = -9223372036854775808 := rfl
 have hmax : IntKind.i64.max = 9223372036854775807 := rfl
 simp only [Lit.wf, Bool.and_eq_true, decide_eq_true_eq] at h
 unfold InI; omega

theorem one_int {fuel : Nat} {v : Value} {x : DataW H × List MemPlace} (h : DataW.trod enc Tryz.prog w base spare held fuel 3 [v] = some x) : ∃ n, v = .int .i64 n ∧ InI n := by
 obtain ⟨n, hc, _, hw⟩ := DataW.trod_int Tryz.underlying3 h
 simp at hc
 exact ⟨n, hc, InI_wf hw⟩

theorem trod_two {t : TypeId} {f0 f1 : Field} {fuel : Nat} {c0 c1 : Value} {x : DataW H × List MemPlace} (ht : Tryz.prog.underlying t = some (.struct #[f0, f1])) (e0 : f0.type = 3 ∧ f0.offset = 0) (e1 : f1.type = 3 ∧ f1.offset = 1) (h : DataW.trod enc Tryz.prog w base spare held fuel t [c0, c1] = some x) :
  ∃ a b, c0 = .int .i64 a ∧ c1 = .int .i64 b ∧ InI a ∧ InI b := by
 obtain ⟨xs, n, _, _, _, hlen, hf⟩ := DataW.trod_struct ht h
 have hc : Tryz.prog.cellsOf 3 = 1 := by kernel_rfl
 match xs, hlen with
 | [y0, y1], _ =>
  have h0 := hf 0 f0 rfl
  have h1 := hf 1 f1 rfl
  rw [e0.1, e0.2, hc] at h0
  rw [e1.1, e1.2, hc] at h1
  obtain ⟨a, rfl, ha⟩ := one_int h0
  obtain ⟨b, rfl, hb⟩ := one_int h1
  exact ⟨a, b, rfl, rfl, ha, hb⟩

set_option maxRecDepth 100000 in
theorem cells_cell : Tryz.prog.cellsOf 69 = 2 := by kernel_rfl
set_option maxRecDepth 100000 in
theorem cells_size : Tryz.prog.cellsOf 23 = 2 := by kernel_rfl

set_option maxRecDepth 100000 in
theorem open_cell {v : Value} {d : DataW H} {p : List MemPlace} (hv : Value.okWide Tryz.prog w r b0 69 v) (h : DataW.Trod enc Tryz.prog w base spare held 69 v d p) : ∃ x y, v = .agg #[.int .i64 x, .int .i64 y] ∧ InI x ∧ InI y := by
 obtain ⟨cs, rfl, hsz⟩ := okWide_struct Tryz.underlying69 hv
 obtain ⟨l⟩ := cs
 rw [cells_cell] at hsz
 match l, hsz with
 | [c0, c1], _ =>
  obtain ⟨fuel, hf⟩ := h
  obtain ⟨a, b, rfl, rfl, ha, hb⟩ := trod_two Tryz.underlying69 ⟨rfl, rfl⟩ ⟨rfl, rfl⟩ hf
  exact ⟨a, b, rfl, ha, hb⟩

set_option maxRecDepth 100000 in
theorem cells_parts : Tryz.prog.cellsOf 63 = 3 := by kernel_rfl
set_option maxRecDepth 100000 in
theorem open_parts {v : Value} {d : DataW H} {p : List MemPlace} (hv : Value.okWide Tryz.prog w r b0 63 v) (h : DataW.Trod enc Tryz.prog w base spare held 63 v d p) : ∃ x y z, v = .agg #[.int .i64 x, .int .i64 y, .int .i64 z] ∧ InI x ∧ InI y ∧ InI z := by
  obtain ⟨cs, rfl, hsz⟩ := okWide_struct Tryz.underlying63 hv
  obtain ⟨l⟩ := cs
  rw [cells_parts] at hsz
  match l, hsz with
  | [c0, c1, c2], _ =>
    obtain ⟨fuel, hf⟩ := h
    obtain ⟨xs, n, _, _, _, hlen, hf⟩ := DataW.trod_struct Tryz.underlying63 hf
    match xs, hlen with
    | [y0, y1], _ =>
      have h0 := hf 0 _ rfl
      have h1 := hf 1 _ rfl
      obtain ⟨a, b, rfl, rfl, ha, hb⟩ := trod_two (c0 := c0) (c1 := c1) Tryz.underlying23 ⟨rfl, rfl⟩ ⟨rfl, rfl⟩ h0
      obtain ⟨c, rfl, hc⟩ := one_int (v := c2) h1
      exact ⟨a, b, c, rfl, ha, hb, hc⟩
end
theorem own : ownKnob Tryz.prog.godebug = none := by kernel_rfl
theorem laidOut : laidOutB Tryz.prog = true := by kernel_rfl

section
variable {H : Type} {enc : TypeId × Value → H} {w : World} {r : Reach} {base b0 : Nat} {spare : Nat → Bool} {held : Bool}

/-- What came in as a field. -/
def FieldV (w : World) (W Hh : Int) (a : Option Addr) (l : List Int) : Prop := InI W ∧ InI Hh ∧ (l.length : Int) ≤ 9223372036854775807 ∧ Row16 w a l ∧ U16s l

set_option maxRecDepth 100000 in
theorem cells_field : Tryz.prog.cellsOf 26 = 3 := by kernel_rfl
set_option maxRecDepth 100000 in
theorem cells_u16 : Tryz.prog.cellsOf 83 = 1 := by kernel_rfl

theorem row16_of {a : Addr} {len : Nat} {zs : List Int} (hlen : len ≤ zs.length) (hc : ∀ i, i < zs.length → w.cell? (a.add i) = some (.int .u16 (zs.getD i 0))) (hw : ∀ n ∈ zs, (Lit.int .u16 n).wf = true) : (zs.take len).length = len ∧ Row16 w (some a) (zs.take len) ∧ U16s (zs.take len) := by
 have hl : (zs.take len).length = len := by rw [List.length_take]; omega
 refine ⟨hl, fun h0 => ?_, fun x hx => ?_⟩
 ·obtain ⟨b, off, spot⟩ := a
  have z0 := hc 0 (by omega)
  have hspot : spot = none := by simpa [Addr.add] using World.cell?_spot z0
  subst hspot
  have z0' : w.cell? ⟨b, off, none⟩ = some (.int .u16 (zs.getD 0 0)) := by simpa [Addr.add] using z0
  refine ⟨b, off, rfl, World.block_lt_of_cell? w _ z0', fun k hk => ?_⟩
  have := hc k (by omega)
  rw [Addr.add_lit] at this
  rw [this]
  have hk' : k < zs.length := by omega
  simp [List.getD_eq_getElem?_getD, hk']
 ·have hmem : x ∈ zs := List.mem_of_mem_take hx
  have h := hw x hmem
  have hmin : IntKind.u16.min = 0 := rfl
  have hmax : IntKind.u16.max = 65535 := rfl
  simp only [Lit.wf, Bool.and_eq_true, decide_eq_true_eq] at h
  omega

set_option maxRecDepth 100000 in
theorem open_field {v : Value} {d : DataW H} {p : List MemPlace} (hv : Value.okWide Tryz.prog w r b0 26 v) (h : DataW.Trod enc Tryz.prog w base spare held 26 v d p) :
  ∃ W Hh a l c, v = .agg #[.int .i64 W, .int .i64 Hh, .slice a (List.length l) c] ∧ FieldV w W Hh a l := by
 obtain ⟨cs, rfl, hsz⟩ := okWide_struct Tryz.underlying26 hv
 obtain ⟨l⟩ := cs
 rw [cells_field] at hsz
 match l, hsz with
 | [c0, c1, c2], _ =>
  obtain ⟨fuel, hf⟩ := h
  obtain ⟨xs, n, _, _, _, hlen, hf⟩ := DataW.trod_struct Tryz.underlying26 hf
  match xs, hlen with
  | [y0, y1], _ =>
   have h0 := hf 0 _ rfl
   have h1 := hf 1 _ rfl
   obtain ⟨a, b, rfl, rfl, ha, hb⟩ := trod_two (c0 := c0) (c1 := c1) Tryz.underlying23 ⟨rfl, rfl⟩ ⟨rfl, rfl⟩ h0
   have h1' : DataW.trod enc Tryz.prog w base spare held n 24 [c2] = some y1 := h1
   rcases open_ints Tryz.underlying24 Tryz.underlying83 cells_u16 h1' with ⟨hc, _⟩ | ⟨ad, len, cap, zs, hc, _, hl, hm, hz, _, hcell, hwz⟩
   ·simp at hc
    subst hc
    exact ⟨a, b, none, [], 0, rfl, ha, hb, by simp, fun h => by simp at h, fun x hx => by simp at hx⟩
   ·simp at hc
    subst hc
    have hle : len ≤ zs.length := by rw [hz]; split <;> omega
    obtain ⟨q1, q2, q3⟩ := row16_of hle hcell hwz
    refine ⟨a, b, some ad, zs.take len, cap, by rw [q1], ha, hb, ?_, q2, q3⟩
    rw [q1]; unfold maxLen at hm; omega

set_option maxRecDepth 100000 in
theorem cells_arr2 : Tryz.prog.cellsOf 152 = 2 := by kernel_rfl
set_option maxRecDepth 100000 in
theorem okWide_arr {n : Nat} {e t : TypeId} {v : Value} (ht : Tryz.prog.underlying t = some (.array n e)) (h : Value.okWide Tryz.prog w r b0 t v) : ∃ cs, v = .agg cs ∧ cs.size = Tryz.prog.cellsOf t := by
  simp only [Value.okWide, ht] at h
  obtain ⟨cs, h1, h2, _⟩ := h
  exact ⟨cs, h1, h2⟩
set_option maxRecDepth 100000 in
theorem open_arr2 {v : Value} {d : DataW H} {p : List MemPlace} (hv : Value.okWide Tryz.prog w r b0 152 v) (h : DataW.Trod enc Tryz.prog w base spare held 152 v d p) : ∃ x y, v = .agg #[.int .i64 x, .int .i64 y] ∧ InI x ∧ InI y := by
  obtain ⟨cs, rfl, hsz⟩ := okWide_arr Tryz.underlying152 hv
  obtain ⟨l⟩ := cs
  rw [cells_arr2] at hsz
  match l, hsz with
  | [c0, c1], _ =>
    obtain ⟨fuel, hf⟩ := h
    obtain ⟨xs, n, _, _, _, hlen, hf⟩ := DataW.trod_array Tryz.underlying152 hf
    match xs, hlen with
    | [y0, y1], _ =>
      have hc : Tryz.prog.cellsOf 3 = 1 := by kernel_rfl
      have h0 := hf 0 (by omega)
      have h1 := hf 1 (by omega)
      rw [hc] at h0 h1
      obtain ⟨a, rfl, ha⟩ := one_int (v := c0) h0
      obtain ⟨b, rfl, hb⟩ := one_int (v := c1) h1
      exact ⟨a, b, rfl, ha, hb⟩
end

theorem list_of {α : Type} {Q : Nat → α → Prop} (n : Nat) (h : ∀ i, i < n → ∃ a, Q i a) : ∃ l : List α, l.length = n ∧ ∀ i (hi : i < l.length), Q i l[i] := by
 induction n with
 | zero => exact ⟨[], rfl, fun i hi => by simp at hi⟩
 | succ n ih =>
  obtain ⟨l, hl, hq⟩ := ih (fun i hi => h i (by omega))
  obtain ⟨a, ha⟩ := h n (by omega)
  refine ⟨l ++ [a], by simp [hl], fun i hi => ?_⟩
  by_cases hin : i < l.length
  ·rw [List.getElem_append_left hin]; exact hq i hin
  ·have e : i = l.length := by simp at hi; omega
   subst e
   rw [List.getElem_append_right (Nat.le_refl _)]
   simpa [hl] using ha

section
variable {H : Type} {enc : TypeId × Value → H} {P : Program} {w : World} {base : Nat} {spare : Nat → Bool} {held : Bool}

/-- A slice of structs of two numbers of given kinds. -/
theorem open_pairs2 {t e t0 t1 : TypeId} {q0 q1 : IntKind} {f0 f1 : Field} {fuel : Nat} {cs : List Value} {x : DataW H × List MemPlace} (ht : P.underlying t = some (.slice e)) (he : P.underlying e = some (.struct #[f0, f1])) (hC : P.cellsOf e = 2)
  (e0 : f0.type = t0 ∧ f0.offset = 0) (e1 : f1.type = t1 ∧ f1.offset = 1) (h0 : P.underlying t0 = some (.int q0)) (h1 : P.underlying t1 = some (.int q1)) (c0 : P.cellsOf t0 = 1) (c1 : P.cellsOf t1 = 1)
  (h : DataW.trod enc P w base spare held fuel t cs = some x) :
  cs = [.slice none 0 0] ∨ ∃ a len cap, cs = [.slice a len cap] ∧ len ≤ maxLen ∧ (0 < len → ∃ b off, ∃ l : List (Int × Int), a = some ⟨b, off, none⟩ ∧ b < w.heap.size ∧ l.length = len ∧
   ∀ k (hk : k < l.length), (w.cell? ⟨b, off + k * 2, none⟩ = some (.int q0 l[k].1) ∧ w.cell? ⟨b, off + k * 2 + 1, none⟩ = some (.int q1 l[k].2)) ∧ (Lit.int q0 l[k].1).wf = true ∧ (Lit.int q1 l[k].2).wf = true) := by
 rcases Go.Deep.open_slice ht h with h | ⟨a, len, cap, m, n, D, Pl, rfl, _, hl, hm, hmm, _, hi⟩
 ·exact .inl h.1
 ·refine .inr ⟨some a, len, cap, rfl, by omega, fun hpos => ?_⟩
  have each : ∀ i, i < len → ∃ p : Int × Int, (w.cell? (a.add (i * 2)) = some (.int q0 p.1) ∧ w.cell? (a.add (i * 2 + 1)) = some (.int q1 p.2)) ∧ (Lit.int q0 p.1).wf = true ∧ (Lit.int q1 p.2).wf = true := by
   intro i hlt
   obtain ⟨cs', hc, ht'⟩ := hi i (by rw [hmm]; split <;> omega)
   rw [hC] at hc
   obtain ⟨_, hlen, hat⟩ := World.cells?_some hc
   obtain ⟨xs, n', _, _, _, hxl, hf⟩ := DataW.trod_struct he ht'
   match cs', hlen, xs, hxl with
   | [v0, v1], _, [y0, y1], _ =>
    have g0 := hf 0 f0 rfl
    have g1 := hf 1 f1 rfl
    rw [e0.1, e0.2, c0] at g0
    rw [e1.1, e1.2, c1] at g1
    obtain ⟨p0, hp0, _, hw0⟩ := DataW.trod_int h0 g0
    obtain ⟨p1, hp1, _, hw1⟩ := DataW.trod_int h1 g1
    simp at hp0 hp1
    subst hp0
    subst hp1
    have a0 := hat 0 (by omega)
    have a1 := hat 1 (by omega)
    rw [Go.Deep.add_add] at a0 a1
    exact ⟨(p0, p1), ⟨a0, a1⟩, hw0, hw1⟩
  obtain ⟨l, hll, hq⟩ := list_of len each
  obtain ⟨b, off, spot⟩ := a
  have z0 := (hq 0 (by omega)).1.1
  rw [Nat.zero_mul] at z0
  have hspot : spot = none := by simpa [Addr.add] using World.cell?_spot z0
  subst hspot
  have hb : b < w.heap.size := World.block_lt_of_cell? w _ z0
  refine ⟨b, off, l, rfl, hb, hll, fun k hk => ?_⟩
  have := hq k hk
  rw [Addr.add_lit, Addr.add_lit] at this
  exact this
end

section
variable {H : Type} {enc : TypeId × Value → H} {w : World} {r : Reach} {base b0 : Nat} {spare : Nat → Bool} {held : Bool}

set_option maxRecDepth 100000 in
theorem cells_box : Tryz.prog.cellsOf 117 = 4 := by kernel_rfl
set_option maxRecDepth 100000 in
theorem open_box {v : Value} {d : DataW H} {p : List MemPlace} (hv : Value.okWide Tryz.prog w r b0 117 v) (h : DataW.Trod enc Tryz.prog w base spare held 117 v d p) : ∃ x y z u, v = .agg #[.int .i64 x, .int .i64 y, .int .i64 z, .int .i64 u] ∧ InI x ∧ InI y ∧ InI z ∧ InI u := by
 obtain ⟨cs, rfl, hsz⟩ := okWide_struct Tryz.underlying117 hv
 obtain ⟨l⟩ := cs
 rw [cells_box] at hsz
 match l, hsz with
 | [c0, c1, c2, c3], _ =>
  obtain ⟨fuel, hf⟩ := h
  obtain ⟨xs, n, _, _, _, hlen, hf⟩ := DataW.trod_struct Tryz.underlying117 hf
  match xs, hlen with
  | [y0, y1, y2, y3], _ =>
   obtain ⟨a, rfl, ha⟩ := one_int (v := c0) (hf 0 _ rfl)
   obtain ⟨b, rfl, hb⟩ := one_int (v := c1) (hf 1 _ rfl)
   obtain ⟨c, rfl, hc⟩ := one_int (v := c2) (hf 2 _ rfl)
   obtain ⟨e, rfl, he⟩ := one_int (v := c3) (hf 3 _ rfl)
   exact ⟨a, b, c, e, rfl, ha, hb, hc, he⟩

end

section
variable {H : Type} {enc : TypeId × Value → H} {w : World} {r : Reach} {base b0 : Nat} {spare : Nat → Bool} {held : Bool}

end
end Go.Proofs.YtkioohhjjdlhiaaGreat
