/- A row of tokens of one's own, put in order: what the sort leaves, as a row. -/
import Derived.Test.YtifbmapianddcaaSessT
import Derived.Test.YtifbmapianddcaaSessQ
set_option linter.all false
set_option linter.unusedVariables false
set_option linter.unusedSimpArgs false
namespace Go.Proofs.Ytifbmapianddcaa
open Go.RowKit

def valT (a : Array TokT) : List Int := a.toList.map (·.1)
theorem valT_len (a : Array TokT) : (valT a).length = a.size := by simp [valT]
theorem valT_cells (a : Array TokT) : (valT a).flatMap u64E.cells = a.toList.map encT := by
  unfold valT
  induction a.toList with
  | nil => rfl
  | cons x r ih => rw [List.map_cons, List.flatMap_cons, ih]; rfl

theorem valT_of {l : List Int} (h : ∀ x ∈ l, U64 x) : ∃ a : Array TokT, valT a = l := by
  refine ⟨(l.pmap (fun x h => (⟨x, h⟩ : TokT)) h).toArray, ?_⟩
  unfold valT
  simp [List.map_pmap]

theorem own_put {w : World} {g c n base : Nat} {e : TypeId} {l : List Int} (h : Own u64E w base e (.slice (some ⟨g, 0, none⟩) n c) l) (a : Array TokT) (ha : a.size = n) : Own u64E (Go.Sort.putRow encT w g 0 a) base e (.slice (some ⟨g, 0, none⟩) n c) (valT a) := by
  obtain ⟨h1, h2⟩ := h
  rcases h2 with ⟨e, _⟩ | ⟨g', cap, cur, e, hb, hg, hn, hc, hs, ht⟩
  · cases e
  · have hl : n = l.length := by injection e
    have hcc : c = cap := by injection e
    have hgg : g = g' := by injection e with e1; injection e1 with e1; injection e1
    subst hcc hgg
    have hlen : (valT a).length = n := by rw [valT_len, ha]
    refine ⟨by rw [valT_cells, hlen]; simp [ha, u64E], .inr ⟨g, c, Go.Sort.putCells encT 0 a cur, by rw [hlen], hb, ?_, by rw [hlen, hl]; exact hn, hc, by simp [Go.Sort.putCells, hs], ?_⟩⟩
    · unfold Go.Sort.putRow Go.Sort.mapBlock
      rw [Array.getElem?_modify, if_pos rfl, hg]
      rfl
    · have hcur : a.size ≤ cur.size := by rw [hs, ha, hl]; simpa [u64E] using hn
      rw [valT_cells, hlen]
      refine List.ext_getElem (by simp [Go.Sort.putCells, u64E, ← ha]; omega) (fun i h1 h2 => ?_)
      have hi : i < a.size := by simpa using h2
      simp [Go.Sort.putCells, hi]

theorem own_holds {w : World} {g c base : Nat} {e : TypeId} {l : List Int} (h : Own u64E w base e (.slice (some ⟨g, 0, none⟩) l.length c) l) (a : Array TokT) (ha : valT a = l) : Go.Sort.Holds encT w g 0 a := by
  intro j hj
  have hr := h.reads.u64s.2
  have hjl : j < l.length := by rw [← ha, valT_len]; exact hj
  have h' : w.ownsRow base e u64E.size (.slice (some ⟨g, 0, none⟩) l.length c) l.length (l.flatMap u64E.cells) := h
  refine ⟨?_, h'.frozenAt _⟩
  rw [hr j hjl]
  subst ha
  simp [valT, encT, hj]

/-- A row that is put in order by Tokens' comparison. -/
theorem sortOwn_any {w : World} {g c q d n N base : Nat} {D : DataW Unit} {l : List Int} (h : Own u64E w base 38 (.slice (some ⟨g, 0, none⟩) l.length c) l) (hu : ∀ x ∈ l, U64 x) (h12 : l.length ≤ 12)
    (c1 : w.cell? ⟨q, 0, none⟩ = some (.pointer (some ⟨d, 0, none⟩))) (c2 : w.cell? ⟨d, 2, none⟩ = some (.map (some n))) (m : w.ownsMap Try.prog 38 (plainElem Try.prog 3) n N D)
    (lq : q < w.heap.size) (ld : d < w.heap.size) (hq : q ≠ g) (hd : d ≠ g) (hn : n ≠ g) :
    Calls Try.prog 131 #[.slice (some ⟨g, 0, none⟩) l.length c, .func (.func 92) #[] #[.pointer (some ⟨q, 0, none⟩)]] w fun e w' => e = .returned (.tuple #[]) ∧ ∃ l', l'.Perm l ∧ l'.Pairwise (fun x y => tokN D x ≤ tokN D y) ∧ Own u64E w' base 38 (.slice (some ⟨g, 0, none⟩) l.length c) l' ∧ Touch (fun k => k = g) w w' := by
  obtain ⟨a, rfl⟩ := valT_of hu
  have hs := valT_len a
  have H := own_holds h a rfl
  rw [hs] at h12 h ⊢
  refine (sortU_any a H h12 c1 c2 m lq ld hq hd hn).mono ?_
  rintro e w' ⟨rfl, a', k, hp, hsd, rfl⟩
  obtain ⟨p1, _, p3⟩ := hp
  refine ⟨rfl, valT a', ?_, ?_, ?_, (touch_putRow encT w g 0 a').drewN k⟩
  · have p4 : a'.toList.Perm a.toList := by
      have e1 : a'.extract 0 a.size = a' := by rw [← p1]; exact Array.extract_size
      rw [e1, Array.extract_size] at p3
      exact p3
    exact p4.map _
  · rw [List.pairwise_iff_getElem]
    intro i j hi hj hij
    rw [valT_len] at hi hj
    have := hsd i j (Nat.zero_le _) hij (by omega)
    unfold ltOf cfT Go.Lib.compareInt at this
    rw [getElem!_pos a' i hi, getElem!_pos a' j hj] at this
    simp only [valT, List.getElem_map, Array.getElem_toList]
    simp only [decide_eq_false_iff_not] at this
    by_cases hlt : tokN D a'[j].1 < tokN D a'[i].1
    · rw [if_pos hlt] at this; omega
    · omega
  · exact own_put h a' p1
end Go.Proofs.Ytifbmapianddcaa
