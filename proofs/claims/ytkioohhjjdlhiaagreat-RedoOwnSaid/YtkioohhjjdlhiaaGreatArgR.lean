/- Turns that came in as data. -/
import Derived.Test.YtkioohhjjdlhiaaGreatArgF
import Derived.Test.YtkioohhjjdlhiaaGreatTurnP
set_option linter.all false
set_option linter.unusedVariables false
set_option linter.unusedSimpArgs false
namespace Go.Proofs.YtkioohhjjdlhiaaGreat
open Go.RowKit Go.ChangeShapes Go.WideShapes Go.ChangeAt
section
variable {H : Type} {enc : TypeId × Value → H} {w : World} {r : Reach} {base b0 : Nat} {spare : Nat → Bool} {held : Bool}

set_option maxRecDepth 100000 in
theorem cells_edit : Tryz.prog.cellsOf 145 = 2 := by kernel_rfl
set_option maxRecDepth 100000 in
theorem cells_int14 : Tryz.prog.cellsOf 3 = 1 := by kernel_rfl
set_option maxRecDepth 100000 in
theorem cells_turn : Tryz.prog.cellsOf 44 = 2 := by kernel_rfl

/-- What came in as edits. -/
def EditsV (w : World) (a : Option Addr) (E : List (Int × Int)) : Prop := (E.length : Int) ≤ 9223372036854775807 ∧ RowC w a E ∧ ∀ p ∈ E, InI p.1 ∧ InI p.2
set_option maxRecDepth 100000 in
theorem open_edits {fuel : Nat} {v : Value} {x : DataW H × List MemPlace} (h : DataW.trod enc Tryz.prog w base spare held fuel 42 [v] = some x) : ∃ a c E, v = .slice a (List.length E) c ∧ EditsV w a E := by
 rcases open_pairs2 Tryz.underlying42 Tryz.underlying145 cells_edit ⟨rfl, rfl⟩ ⟨rfl, rfl⟩ Tryz.underlying3 Tryz.underlying3 cells_int14 cells_int14 h with hc | ⟨a, len, cap, hc, hm, hp⟩
 ·simp at hc
  subst hc
  exact ⟨none, 0, [], rfl, by simp, (fun h => by simp at h), fun p hp => by cases hp⟩
 ·simp at hc
  subst hc
  by_cases h0 : 0 < len
  ·obtain ⟨b, off, l, rfl, hb, hl, hk⟩ := hp h0
   refine ⟨_, cap, l, by rw [hl], by unfold maxLen at hm; omega, fun _ => ⟨b, off, rfl, hb, fun k hk' => (hk k hk').1⟩, fun p hp => ?_⟩
   obtain ⟨k, hkl, rfl⟩ := List.getElem_of_mem hp
   have h1 := (hk k hkl).2
   exact ⟨InI_wf h1.1, InI_wf h1.2⟩
  ·obtain rfl : len = 0 := by omega
   exact ⟨a, cap, [], rfl, by simp, (fun h => by simp at h), fun p hp => by cases hp⟩

set_option maxRecDepth 100000 in
theorem open_turn2 {fuel : Nat} {v0 v1 : Value} {x : DataW H × List MemPlace} (h : DataW.trod enc Tryz.prog w base spare held fuel 44 [v0, v1] = some x) : ∃ a c E hd, v0 = .slice a (List.length E) c ∧ v1 = .bool hd ∧ EditsV w a E := by
 obtain ⟨xs, n, _, _, _, hlen, hf⟩ := DataW.trod_struct Tryz.underlying44 h
 match xs, hlen with
 | [y0, y1], _ =>
  obtain ⟨a, c, E, rfl, hE⟩ := open_edits (v := v0) (hf 0 _ rfl)
  have h1 : DataW.trod enc Tryz.prog w base spare held n 4 [v1] = some y1 := hf 1 _ rfl
  obtain ⟨hd, hv⟩ : ∃ hd, v1 = .bool hd := by
   obtain ⟨b, e, _⟩ := DataW.trod_bool Tryz.underlying4 h1
   exact ⟨b, by simpa using e⟩
  exact ⟨a, c, E, hd, rfl, hv, hE⟩

/-- What came in as turns. -/
def TurnsV (w : World) (a : Option Addr) (L : List (List (Int × Int) × Bool)) : Prop := L.length ≤ 9223372036854775807 ∧ TurnsAt w a L ∧ ∀ t ∈ L, ∀ e ∈ t.1, InI e.1 ∧ InI e.2
set_option maxRecDepth 100000 in
theorem open_turns {v : Value} {d : DataW H} {p : List MemPlace} (hv : Value.okWide Tryz.prog w r b0 37 v) (h : DataW.Trod enc Tryz.prog w base spare held 37 v d p) : ∃ a c L, v = .slice a (List.length L) c ∧ TurnsV w a L := by
 obtain ⟨a0, l0, c0, rfl⟩ := okWide_slice Tryz.underlying37 hv
 obtain ⟨fuel, hf⟩ := h
 rcases Go.Deep.open_slice Tryz.underlying37 hf with hc | ⟨ad, len, cap, m, n, D, Pl, hc, _, hl, hm, hmm, _, hi⟩
 ·have hc := hc.1
  simp [Value.cells] at hc
  obtain ⟨rfl, rfl, rfl⟩ := hc
  exact ⟨none, 0, [], rfl, by simp, (fun h => by simp at h), fun t ht => by cases ht⟩
 ·simp [Value.cells] at hc
  obtain ⟨rfl, rfl, rfl⟩ := hc
  have each : ∀ i, i < l0 → ∃ t : List (Int × Int) × Bool, ∃ sa sc, w.cell? (ad.add (i * 2)) = some (.slice sa t.1.length sc) ∧ w.cell? (ad.add (i * 2 + 1)) = some (.bool t.2) ∧ EditsV w sa t.1 := by
   intro i hlt
   obtain ⟨cs', hc, ht'⟩ := hi i (by rw [hmm]; split <;> omega)
   rw [cells_turn] at hc
   obtain ⟨_, hlen, hat⟩ := World.cells?_some hc
   match cs', hlen with
   | [v0, v1], _ =>
    obtain ⟨sa, sc, E, hd, rfl, rfl, hE⟩ := open_turn2 ht'
    have a0 := hat 0 (by omega)
    have a1 := hat 1 (by omega)
    rw [Go.Deep.add_add] at a0 a1
    exact ⟨(E, hd), sa, sc, a0, a1, hE⟩
  obtain ⟨L, hL, hq⟩ := list_of l0 each
  refine ⟨some ad, c0, L, by rw [hL], by rw [hL]; unfold maxLen at hm; omega, fun h0 => ?_, fun t ht => ?_⟩
  ·obtain ⟨b, off, spot⟩ := ad
   obtain ⟨sa, sc, z0, _⟩ := hq 0 h0
   have hspot : spot = none := by simpa [Addr.add] using World.cell?_spot z0
   subst hspot
   have z0' : w.cell? ⟨b, off, none⟩ = some (.slice sa L[0].1.length sc) := by simpa [Addr.add] using z0
   refine ⟨b, off, rfl, World.block_lt_of_cell? w _ z0', fun k hk => ?_⟩
   obtain ⟨sa, sc, h1, h2, h3⟩ := hq k hk
   rw [Addr.add_lit] at h1 h2
   exact ⟨sa, sc, h1, h2, h3.2.1⟩
  ·obtain ⟨k, hk, rfl⟩ := List.getElem_of_mem ht
   obtain ⟨_, _, _, _, h3⟩ := hq k hk
   exact h3.2.2

set_option maxRecDepth 100000 in
theorem open_turnV {v : Value} {d : DataW H} {p : List MemPlace} (hv : Value.okWide Tryz.prog w r b0 44 v) (h : DataW.Trod enc Tryz.prog w base spare held 44 v d p) : ∃ a c E hd, v = .agg #[.slice a (List.length E) c, .bool hd] ∧ EditsV w a E := by
 obtain ⟨cs, rfl, hsz⟩ := okWide_struct Tryz.underlying44 hv
 obtain ⟨l⟩ := cs
 rw [cells_turn] at hsz
 match l, hsz with
 | [c0, c1], _ =>
  obtain ⟨fuel, hf⟩ := h
  obtain ⟨a, c, E, hd, rfl, rfl, hE⟩ := open_turn2 hf
  exact ⟨a, c, E, hd, rfl, hE⟩

set_option maxRecDepth 100000 in
theorem cells_two : Tryz.prog.cellsOf 60 = 4 := by kernel_rfl
set_option maxRecDepth 100000 in
theorem open_two {v : Value} {d : DataW H} {p : List MemPlace} (hv : Value.okWide Tryz.prog w r b0 60 v) (h : DataW.Trod enc Tryz.prog w base spare held 60 v d p) : ∃ a c E hd a' c' E' hd', v = .agg #[.slice a (List.length E) c, .bool hd, .slice a' (List.length E') c', .bool hd'] ∧ EditsV w a E ∧ EditsV w a' E' := by
 obtain ⟨cs, rfl, hsz⟩ := okWide_arr Tryz.underlying60 hv
 obtain ⟨l⟩ := cs
 rw [cells_two] at hsz
 match l, hsz with
 | [c0, c1, c2, c3], _ =>
  obtain ⟨fuel, hf⟩ := h
  obtain ⟨xs, n, _, _, _, hlen, hf⟩ := DataW.trod_array Tryz.underlying60 hf
  match xs, hlen with
  | [y0, y1], _ =>
   have h0 := hf 0 (by omega)
   have h1 := hf 1 (by omega)
   rw [cells_turn] at h0 h1
   obtain ⟨a, c, E, hd, rfl, rfl, hE⟩ := open_turn2 (v0 := c0) (v1 := c1) h0
   obtain ⟨a', c', E', hd', rfl, rfl, hE'⟩ := open_turn2 (v0 := c2) (v1 := c3) h1
   exact ⟨a, c, E, hd, a', c', E', hd', rfl, hE, hE'⟩

set_option maxRecDepth 100000 in
theorem open_field3 {fuel : Nat} {c0 c1 c2 : Value} {x : DataW H × List MemPlace} (h : DataW.trod enc Tryz.prog w base spare held fuel 26 [c0, c1, c2] = some x) :
  ∃ W Hh a l c, c0 = .int .i64 W ∧ c1 = .int .i64 Hh ∧ c2 = .slice a (List.length l) c ∧ FieldV w W Hh a l := by
 obtain ⟨xs, n, _, _, _, hlen, hf⟩ := DataW.trod_struct Tryz.underlying26 h
 match xs, hlen with
 | [y0, y1], _ =>
  have h0 := hf 0 _ rfl
  have h1 := hf 1 _ rfl
  obtain ⟨a, b, rfl, rfl, ha, hb⟩ := trod_two (c0 := c0) (c1 := c1) Tryz.underlying23 ⟨rfl, rfl⟩ ⟨rfl, rfl⟩ h0
  have h1' : DataW.trod enc Tryz.prog w base spare held n 24 [c2] = some y1 := h1
  rcases open_ints Tryz.underlying24 Tryz.underlying83 cells_u16 h1' with ⟨hc, _⟩ | ⟨ad, len, cap, zs, hc, _, hl, hm, hz, _, hcell, hwz⟩
  ·simp at hc
   subst hc
   exact ⟨a, b, none, [], 0, rfl, rfl, rfl, ha, hb, by simp, fun h => by simp at h, fun x hx => by simp at hx⟩
  ·simp at hc
   subst hc
   have hle : len ≤ zs.length := by rw [hz]; split <;> omega
   obtain ⟨q1, q2, q3⟩ := row16_of hle hcell hwz
   refine ⟨a, b, some ad, zs.take len, cap, rfl, rfl, by rw [q1], ha, hb, ?_, q2, q3⟩
   rw [q1]; unfold maxLen at hm; omega
end
end Go.Proofs.YtkioohhjjdlhiaaGreat
