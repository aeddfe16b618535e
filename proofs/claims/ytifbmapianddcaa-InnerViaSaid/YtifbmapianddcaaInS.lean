/- What stores of one's own do to a table's cells and rows. -/
import Derived.Test.YtifbmapianddcaaInO
import Derived.Test.YtifbmapianddcaaInK
import Derived.Test.YtifbmapianddcaaHeapB
set_option linter.all false
set_option linter.unusedVariables false
set_option linter.unusedSimpArgs false
namespace Go.Proofs.Ytifbmapianddcaa
open Go.RowKit

theorem cells_turn0 {w : World} {base g n c : Nat} {e : TypeId} {l : List Cell} (h : Own cellE w base e (.slice (some ⟨g, 0, none⟩) n c) l) (h0 : 0 < l.length) (x y : Int) :
    Own cellE ((w.setCell ⟨g, 0, none⟩ (.int .i64 x)).setCell ⟨g, 1, none⟩ (.int .i64 y)) base e (.slice (some ⟨g, 0, none⟩) n c) (l.set 0 (x, y)) := by
  have := Own.turn h h0 (x, y)
  simpa [setRun, cellE] using this

theorem own_cell {α : Type} {E : Enc α} {w : World} {base g n c : Nat} {e : TypeId} {l : List α} (h : Own E w base e (.slice (some ⟨g, 0, none⟩) n c) l) {k : Nat} {y : α} (hk : l[k]? = some y) {j : Nat} {u : Value} (hu : (E.cells y)[j]? = some u) : w.cell? ⟨g, k * E.size + j, none⟩ = some u ∧ w.frozen? ⟨g, k * E.size + j, none⟩ = false := by
  have h1 := (Reads.cells h.reads).2.2 k y hk j u hu
  rw [Nat.zero_add] at h1
  obtain ⟨a', c', e'⟩ := h.slice
  have en : n = l.length := by injection e'
  subst en
  have h' : w.ownsRow base e E.size (.slice (some ⟨g, 0, none⟩) l.length c) l.length (l.flatMap E.cells) := h
  exact ⟨h1, h'.frozenAt _⟩

theorem RowsAt.touch_own {α : Type} {E : Enc α} {w w' : World} {base base' : Nat} {t : TypeId} {u v : Value} {l : List α} {ll : List (List Int)} (h : RowsAt w base v ll) (o : Own E w base' t u l) (h1 : 33 ≠ t) (h2 : 38 ≠ t) (tt : Touch (fun j => u.ownBlock = some j) w w') : RowsAt w' base v ll := by
  obtain ⟨ss, s1, s2, s3⟩ := h
  exact ⟨ss, Own.touch s1 tt (fun k hk e => own_ne_own o s1 (Ne.symm h1) e hk), s2, fun i s r hs hr => Own.touch (s3 i s r hs hr) tt (fun k hk e => own_ne_own o (s3 i s r hs hr) (Ne.symm h2) e hk)⟩

/-- A store into the first cell of the first row: the rows are others. -/
theorem rows_spoil {w : World} {base n c : Nat} {a : Option Addr} {ll : List (List Int)} (h : RowsAt w base (.slice a n c) ll) {r0 : List Int} (hr0 : ll[0]? = some r0) (hl0 : 0 < r0.length) (x : Int) (hx : r0[0]? ≠ some x) :
    ∃ go g0 c0 z, a = some ⟨go, 0, none⟩ ∧ go < w.heap.size ∧ w.cell? ⟨go, 0, none⟩ = some (.slice (some ⟨g0, 0, none⟩) r0.length c0) ∧ base ≤ g0 ∧ g0 < w.heap.size ∧ w.cell? ⟨g0, 0, none⟩ = some (.int .u64 z) ∧ w.frozen? ⟨g0, 0, none⟩ = false ∧ Own u64E w base 38 (.slice (some ⟨g0, 0, none⟩) r0.length c0) r0 ∧
      ∃ ll', RowsU (w.setCell ⟨g0, 0, none⟩ (.int .u64 x)) a ll' ∧ ll'.length = ll.length ∧ ll' ≠ ll ∧ ∀ r, r ∈ ll' → ∃ r', r' ∈ ll ∧ r.length = r'.length := by
  obtain ⟨ss, s1, s2, s3⟩ := h
  obtain ⟨h0, hr0'⟩ := List.getElem?_eq_some_iff.1 hr0
  obtain ⟨go, co, hgo, hgo1, hgo2⟩ := s1.pos (by omega)
  injection hgo with hga hgn hgc
  subst hga hgc
  have hs0 : ss[0]? = some ss[0] := List.getElem?_eq_getElem (by omega)
  have o0 := s3 0 _ _ hs0 hr0
  obtain ⟨g0, c0, e0, e1, e2⟩ := o0.pos hl0
  injection e0 with f1 f2 f3
  have hz : r0[0]? = some r0[0] := List.getElem?_eq_getElem hl0
  rw [f1, f2, f3] at o0
  have hc0 := own_cell o0 hz (j := 0) (u := .int .u64 r0[0]) rfl
  have hcO := own_cell s1 hs0 (j := 0) (u := .slice ss[0].1 ss[0].2.1 ss[0].2.2) rfl
  rw [f1, f2, f3] at hcO
  have o0' : Own u64E w base 38 (.slice (some ⟨g0, 0, none⟩) r0.length c0) r0 := o0
  have hne : go ≠ g0 := fun e => own_ne_own s1 o0 (by decide) (k := go) rfl (by simp [Value.ownBlock, e])
  refine ⟨go, g0, c0, _, rfl, hgo2, hcO.1, e1, e2, hc0.1, hc0.2, o0', List.zipWith (fun s r => if s.1.map (·.block) = some g0 then r.set 0 x else r) ss ll, ?_, ?_, ?_, ?_⟩
  · intro hpos
    simp only [List.length_zipWith] at hpos
    refine ⟨go, 0, rfl, by simp [World.setCell]; exact hgo2, fun k hk => ?_⟩
    simp only [List.length_zipWith] at hk
    have hks : ss[k]? = some ss[k] := List.getElem?_eq_getElem (by omega)
    have hkl : ll[k]? = some ll[k] := List.getElem?_eq_getElem (by omega)
    have ok := s3 k _ _ hks hkl
    have hck := own_cell s1 hks (j := 0) (u := .slice ss[k].1 ss[k].2.1 ss[k].2.2) rfl
    have hru := Reads.rowU ok.reads
    rw [List.getElem_zipWith]
    refine ⟨ss[k].1, ss[k].2.2, ?_, ?_⟩
    · rw [World.cell?_setCell_other _ _ _ _ (by intro e; injection e with e _; exact hne e.symm), Nat.zero_add]
      have := hck.1
      simp only [sliceE, Nat.mul_one, Nat.add_zero] at this
      rw [this, hru.1]
      split <;> simp
    · by_cases hb : ss[k].1.map (·.block) = some g0
      · rw [if_pos hb]
        intro hpk
        rw [List.length_set] at hpk
        obtain ⟨gk, ck, ek, _, _⟩ := ok.pos hpk
        injection ek with ek1 ek2 ek3
        rw [ek1] at hb ⊢
        simp only [Option.map_some, Option.some.injEq] at hb
        subst hb
        rw [ek1, ek2, ek3] at ok
        refine ⟨gk, 0, rfl, by simp [World.setCell]; exact e2, fun j hj => ?_⟩
        rw [List.length_set] at hj
        have hcj := own_cell ok (List.getElem?_eq_getElem hj) (j := 0) (u := .int .u64 ll[k][j]) rfl
        simp only [u64E, Nat.mul_one, Nat.add_zero] at hcj
        rw [Nat.zero_add]
        by_cases hj0 : j = 0
        · subst hj0
          rw [List.getElem_set_self]
          exact World.cell?_setCell_same' _ _ _ (by rw [hcj.1]; rfl)
        · rw [List.getElem_set_ne (by omega), World.cell?_setCell_other _ _ _ _ (by intro e; injection e with _ e; exact hj0 e.symm)]
          exact hcj.1
      · rw [if_neg hb]
        intro hpk
        obtain ⟨b, off, ea, hbl, hcl⟩ := hru.2 hpk
        rw [ea] at hb ⊢
        simp only [Option.map_some, Option.some.injEq] at hb
        refine ⟨b, off, rfl, by simp [World.setCell]; exact hbl, fun j hj => ?_⟩
        rw [World.cell?_setCell_other _ _ _ _ (by intro e; injection e with e _; exact hb e.symm)]
        exact hcl j hj
  · simp; omega
  · intro e
    have := congrArg (fun l : List (List Int) => l[0]?) e
    simp only [List.getElem?_zipWith, hs0, hr0] at this
    simp only [Option.some.injEq] at this
    rw [f1] at this
    simp only [Option.map_some, if_true] at this
    apply hx
    rw [← this, List.getElem?_set_self hl0]
  · intro r hr
    obtain ⟨k, hk, rfl⟩ := List.getElem_of_mem hr
    simp only [List.length_zipWith] at hk
    rw [List.getElem_zipWith]
    refine ⟨ll[k], List.getElem_mem _, ?_⟩
    split <;> simp
end Go.Proofs.Ytifbmapianddcaa
