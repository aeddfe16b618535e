/- A row of gates that came in. -/
import Derived.Test.YtifbmapianddcaaArgF
set_option linter.all false
set_option linter.unusedVariables false
set_option linter.unusedSimpArgs false
namespace Go.Proofs.Ytifbmapianddcaa
open Go.RowKit

/-- What came in as a row of gates. -/
def GatesV (w : World) (v : Value) (n : Nat) : Prop := ∃ a c, v = .slice a n c ∧ (0 < n → ∃ L : List (Cell × Cell), L.length = n ∧ Reads pairE w v L)

section
open Go.ChangeShapes Go.WideShapes Go.ChangeAt
variable {H : Type} {enc : TypeId × Value → H} {w : World} {r : Reach} {base b0 : Nat} {spare : Nat → Bool} {held : Bool}
set_option maxRecDepth 100000 in
theorem cells_gateG : Try.prog.cellsOf 106 = 4 := by kernel_rfl
set_option maxRecDepth 100000 in
set_option maxHeartbeats 1000000 in
theorem open_gates {v : Value} {d : DataW H} {p : List MemPlace} (hv : Value.okWide Try.prog w r b0 102 v) (h : DataW.Trod enc Try.prog w base spare held 102 v d p) : ∃ n, GatesV w v n := by
  obtain ⟨a0, l0, c0, rfl⟩ := okWide_slice Try.underlying102 hv
  obtain ⟨fuel, hf⟩ := h
  refine ⟨l0, a0, c0, rfl, fun hpos => ?_⟩
  rcases Go.Deep.open_slice Try.underlying102 hf with h | ⟨a, len, cap, m, n, D, Pl, hcs, _, hl, hm, hmm, _, hi⟩
  · have := h.1
    simp [Value.cells] at this
    omega
  · simp [Value.cells] at hcs
    obtain ⟨rfl, rfl, rfl⟩ := hcs
    have each : ∀ i, i < l0 → ∃ q : Cell × Cell, w.cell? (a.add (i * 4)) = some (.int .i64 q.1.1) ∧ w.cell? (a.add (i * 4 + 1)) = some (.int .i64 q.1.2) ∧ w.cell? (a.add (i * 4 + 2)) = some (.int .i64 q.2.1) ∧ w.cell? (a.add (i * 4 + 3)) = some (.int .i64 q.2.2) := by
      intro i hlt
      obtain ⟨cs', hc, ht'⟩ := hi i (by rw [hmm]; split <;> omega)
      rw [cells_gateG] at hc
      obtain ⟨_, hlen, hat⟩ := World.cells?_some hc
      obtain ⟨xs, n', _, _, _, hxl, hf'⟩ := DataW.trod_struct Try.underlying106 ht'
      match cs', hlen, xs, hxl with
      | [v0, v1, v2, v3], _, [y0, y1], _ =>
        have g0 := hf' 0 _ rfl
        have g1 := hf' 1 _ rfl
        obtain ⟨x0, x1, rfl, rfl, _, _⟩ := trod_two (c0 := v0) (c1 := v1) Try.underlying28 ⟨rfl, rfl⟩ ⟨rfl, rfl⟩ g0
        obtain ⟨x2, x3, rfl, rfl, _, _⟩ := trod_two (c0 := v2) (c1 := v3) Try.underlying28 ⟨rfl, rfl⟩ ⟨rfl, rfl⟩ g1
        have a0 := hat 0 (by omega)
        have a1 := hat 1 (by omega)
        have a2 := hat 2 (by omega)
        have a3 := hat 3 (by omega)
        rw [Go.Deep.add_add] at a0 a1 a2 a3
        exact ⟨((x0, x1), (x2, x3)), a0, a1, a2, a3⟩
    obtain ⟨l, hll, hq⟩ := list_of l0 each
    obtain ⟨b, off, spot⟩ := a
    have z0 := (hq 0 (by omega)).1
    rw [Nat.zero_mul] at z0
    have hspot : spot = none := by simpa [Addr.add] using World.cell?_spot z0
    subst hspot
    have hb : b < w.heap.size := World.block_lt_of_cell? w _ z0
    refine ⟨l, hll, .inr ⟨b, off, c0, by rw [hll], hb, fun k y hk j u hu => ?_⟩⟩
    obtain ⟨hk', rfl⟩ := List.getElem?_eq_some_iff.1 hk
    obtain ⟨q0, q1, q2, q3⟩ := hq k hk'
    rw [Addr.add_lit] at q0 q1 q2 q3
    have hs : pairE.size = 4 := rfl
    rw [hs]
    match j, hu with
    | 0, hu => simp [pairE] at hu; subst hu; exact q0
    | 1, hu => simp [pairE] at hu; subst hu; exact q1
    | 2, hu => simp [pairE] at hu; subst hu; exact q2
    | 3, hu => simp [pairE] at hu; subst hu; exact q3
    | j + 4, hu => simp [pairE] at hu
end
end Go.Proofs.Ytifbmapianddcaa
