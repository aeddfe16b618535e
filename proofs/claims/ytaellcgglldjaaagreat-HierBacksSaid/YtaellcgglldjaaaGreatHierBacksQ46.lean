/- Part of a proof: ArgF ArgH. -/
import Derived.Test.YtaellcgglldjaaaGreatHierBacksQ02
import Derived.ProofKit
import Derived.OpenShut
import Derived.ShutString
import Derived.ChangeOld
import Derived.Test.YtaellcgglldjaaaGreatHierBacksQ04
import Derived.Deep.Slices
import Derived.Test.YtaellcgglldjaaaGreatHierBacksQ01
set_option linter.all false
set_option linter.unusedVariables false
set_option linter.unusedSimpArgs false
namespace Go.Proofs.YtaellcgglldjaaaGreat
open Go.RowKit Go.ChangeShapes Go.WideShapes Go.ChangeAt
section
variable {H : Type} {enc : TypeId × Value → H} {w : World} {r : Reach} {base b0 : Nat} {spare : Nat → Bool} {held : Bool}
theorem InI_wf {n : Int} (h : (Lit.int .i64 n).wf = true) : InI n := by
 have hmin : IntKind.i64.min = -9223372036854775808 := rfl
 have hmax : IntKind.i64.max = 9223372036854775807 := rfl
 simp only [Lit.wf, Bool.and_eq_true, decide_eq_true_eq] at h
 unfold InI; omega
theorem one_int {fuel : Nat} {v : Value} {x : DataW H × List MemPlace} (h : DataW.trod enc Tryz.prog w base spare held fuel 3 [v] = some x) : ∃ n, v = .int .i64 n ∧ InI n := by
 obtain ⟨n, hc, _, hw⟩ := DataW.trod_int Tryz.underlying3 h
 simp at hc
 exact ⟨n, hc, InI_wf hw⟩
theorem trod_two {t : TypeId} {f0 f1 : Field} {fuel : Nat} {c0 c1 : Value} {x : DataW H × List MemPlace} (ht : Tryz.prog.underlying t = some (.struct #[f0, f1])) (e0 : f0.type = 3 ∧ f0.offset = 0) (e1 : f1.type = 3 ∧ f1.offset = 1) (h : DataW.trod enc Tryz.prog w base spare held fuel t [c0, c1] = some x) :
  ∃ a b, c0 = .int .i64 a ∧ c1 = .int .i64 b ∧ InI a ∧ InI b := by
 obtain ⟨xs, n, _, _, _, hlen, hf⟩ := DataW.trod_struct ht h
 have hc : Tryz.prog.cellsOf 3 = 1 := by kernel_rfl
 match xs, hlen with
 | [y0, y1], _ =>
  have h0 := hf 0 f0 rfl
  have h1 := hf 1 f1 rfl
  rw [e0.1, e0.2, hc] at h0
  rw [e1.1, e1.2, hc] at h1
  obtain ⟨a, rfl, ha⟩ := one_int h0
  obtain ⟨b, rfl, hb⟩ := one_int h1
  exact ⟨a, b, rfl, rfl, ha, hb⟩
set_option maxRecDepth 100000 in
theorem cells_cell : Tryz.prog.cellsOf 28 = 2 := by kernel_rfl
set_option maxRecDepth 100000 in
theorem open_cell {v : Value} {d : DataW H} {p : List MemPlace} (hv : Value.okWide Tryz.prog w r b0 28 v) (h : DataW.Trod enc Tryz.prog w base spare held 28 v d p) : ∃ x y, v = .agg #[.int .i64 x, .int .i64 y] ∧ InI x ∧ InI y := by
 obtain ⟨cs, rfl, hsz⟩ := okWide_struct Tryz.underlying28 hv
 obtain ⟨l⟩ := cs
 rw [cells_cell] at hsz
 match l, hsz with
 | [c0, c1], _ =>
  obtain ⟨fuel, hf⟩ := h
  obtain ⟨a, b, rfl, rfl, ha, hb⟩ := trod_two Tryz.underlying28 ⟨rfl, rfl⟩ ⟨rfl, rfl⟩ hf
  exact ⟨a, b, rfl, ha, hb⟩
end
theorem own : ownKnob Tryz.prog.godebug = none := by kernel_rfl
theorem laidOut : laidOutB Tryz.prog = true := by kernel_rfl
section
variable {H : Type} {enc : TypeId × Value → H} {w : World} {r : Reach} {base b0 : Nat} {spare : Nat → Bool} {held : Bool}
def FieldV (w : World) (W Hh : Int) (a : Option Addr) (l : List Int) : Prop := InI W ∧ InI Hh ∧ (l.length : Int) ≤ 9223372036854775807 ∧ Row16 w a l ∧ U16s l
set_option maxRecDepth 100000 in
theorem cells_field : Tryz.prog.cellsOf 26 = 3 := by kernel_rfl
set_option maxRecDepth 100000 in
theorem cells_u16 : Tryz.prog.cellsOf 84 = 1 := by kernel_rfl
theorem row16_of {a : Addr} {len : Nat} {zs : List Int} (hlen : len ≤ zs.length) (hc : ∀ i, i < zs.length → w.cell? (a.add i) = some (.int .u16 (zs.getD i 0))) (hw : ∀ n ∈ zs, (Lit.int .u16 n).wf = true) : (zs.take len).length = len ∧ Row16 w (some a) (zs.take len) ∧ U16s (zs.take len) := by
 have hl : (zs.take len).length = len := by rw [List.length_take]; omega
 refine ⟨hl, fun h0 => ?_, fun x hx => ?_⟩
 ·obtain ⟨b, off, spot⟩ := a
  have z0 := hc 0 (by omega)
  have hspot : spot = none := by simpa [Addr.add] using World.cell?_spot z0
  subst hspot
  have z0' : w.cell? ⟨b, off, none⟩ = some (.int .u16 (zs.getD 0 0)) := by simpa [Addr.add] using z0
  refine ⟨b, off, rfl, World.block_lt_of_cell? w _ z0', fun k hk => ?_⟩
  have := hc k (by omega)
  rw [Addr.add_lit] at this
  rw [this]
  have hk' : k < zs.length := by omega
  simp [List.getD_eq_getElem?_getD, hk']
 ·have hmem : x ∈ zs := List.mem_of_mem_take hx
  have h := hw x hmem
  have hmin : IntKind.u16.min = 0 := rfl
  have hmax : IntKind.u16.max = 65535 := rfl
  simp only [Lit.wf, Bool.and_eq_true, decide_eq_true_eq] at h
  omega
set_option maxRecDepth 100000 in
theorem open_field {v : Value} {d : DataW H} {p : List MemPlace} (hv : Value.okWide Tryz.prog w r b0 26 v) (h : DataW.Trod enc Tryz.prog w base spare held 26 v d p) :
  ∃ W Hh a l c, v = .agg #[.int .i64 W, .int .i64 Hh, .slice a (List.length l) c] ∧ FieldV w W Hh a l := by
 obtain ⟨cs, rfl, hsz⟩ := okWide_struct Tryz.underlying26 hv
 obtain ⟨l⟩ := cs
 rw [cells_field] at hsz
 match l, hsz with
 | [c0, c1, c2], _ =>
  obtain ⟨fuel, hf⟩ := h
  obtain ⟨xs, n, _, _, _, hlen, hf⟩ := DataW.trod_struct Tryz.underlying26 hf
  match xs, hlen with
  | [y0, y1], _ =>
   have h0 := hf 0 _ rfl
   have h1 := hf 1 _ rfl
   obtain ⟨a, b, rfl, rfl, ha, hb⟩ := trod_two (c0 := c0) (c1 := c1) Tryz.underlying23 ⟨rfl, rfl⟩ ⟨rfl, rfl⟩ h0
   have h1' : DataW.trod enc Tryz.prog w base spare held n 24 [c2] = some y1 := h1
   rcases open_ints Tryz.underlying24 Tryz.underlying84 cells_u16 h1' with ⟨hc, _⟩ | ⟨ad, len, cap, zs, hc, _, hl, hm, hz, _, hcell, hwz⟩
   ·simp at hc
    subst hc
    exact ⟨a, b, none, [], 0, rfl, ha, hb, by simp, fun h => by simp at h, fun x hx => by simp at hx⟩
   ·simp at hc
    subst hc
    have hle : len ≤ zs.length := by rw [hz]; split <;> omega
    obtain ⟨q1, q2, q3⟩ := row16_of hle hcell hwz
    refine ⟨a, b, some ad, zs.take len, cap, by rw [q1], ha, hb, ?_, q2, q3⟩
    rw [q1]; unfold maxLen at hm; omega
end
section
variable {H : Type} {enc : TypeId × Value → H} {P : Program} {w : World} {base : Nat} {spare : Nat → Bool} {held : Bool}
end
section
variable {H : Type} {enc : TypeId × Value → H} {w : World} {r : Reach} {base b0 : Nat} {spare : Nat → Bool} {held : Bool}
end
section
variable {H : Type} {enc : TypeId × Value → H} {w : World} {r : Reach} {base b0 : Nat} {spare : Nat → Bool} {held : Bool}
end
end Go.Proofs.YtaellcgglldjaaaGreat

namespace Go.Proofs.YtaellcgglldjaaaGreat
open Go.RowKit Go.ChangeShapes Go.WideShapes Go.ChangeAt
section
variable {H : Type} {enc : TypeId × Value → H} {w : World} {r : Reach} {base b0 : Nat} {spare : Nat → Bool} {held : Bool}
set_option maxRecDepth 100000 in
theorem cells_ask15 : Tryz.prog.cellsOf 30 = 6 := by kernel_rfl
set_option maxRecDepth 100000 in
theorem open_ask15 {v : Value} {d : DataW H} {p : List MemPlace} (hv : Value.okWide Tryz.prog w r b0 30 v) (h : DataW.Trod enc Tryz.prog w base spare held 30 v d p) : ∃ s x y z u b, v = .agg #[.int .i64 s, .int .i64 x, .int .i64 y, .int .i64 z, .int .i64 u, .int .i64 b] ∧ InI s ∧ InI x ∧ InI y ∧ InI z ∧ InI u ∧ InI b := by
 obtain ⟨cs, rfl, hsz⟩ := okWide_struct Tryz.underlying30 hv
 obtain ⟨l⟩ := cs
 rw [cells_ask15] at hsz
 match l, hsz with
 | [c0, c1, c2, c3, c4, c5], _ =>
  obtain ⟨fuel, hf⟩ := h
  obtain ⟨xs, n, _, _, _, hlen, hf⟩ := DataW.trod_struct Tryz.underlying30 hf
  match xs, hlen with
  | [y0, y1, y2, y3], _ =>
   obtain ⟨s, rfl, hs⟩ := one_int (v := c0) (hf 0 _ rfl)
   obtain ⟨a, b, rfl, rfl, ha, hb⟩ := trod_two (c0 := c1) (c1 := c2) Tryz.underlying28 ⟨rfl, rfl⟩ ⟨rfl, rfl⟩ (hf 1 _ rfl)
   obtain ⟨c, e, rfl, rfl, hc, he⟩ := trod_two (c0 := c3) (c1 := c4) Tryz.underlying28 ⟨rfl, rfl⟩ ⟨rfl, rfl⟩ (hf 2 _ rfl)
   obtain ⟨g, rfl, hg⟩ := one_int (v := c5) (hf 3 _ rfl)
   exact ⟨s, a, b, c, e, g, rfl, hs, ha, hb, hc, he, hg⟩
end
end Go.Proofs.YtaellcgglldjaaaGreat

