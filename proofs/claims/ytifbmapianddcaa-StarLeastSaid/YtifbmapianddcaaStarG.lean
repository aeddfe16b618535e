/- The cells beside one that are no walls, as the search meets them; what its memory keeps; hLen. -/
import Derived.Test.YtifbmapianddcaaStarF
set_option linter.all false
set_option linter.unusedVariables false
set_option linter.unusedSimpArgs false
namespace Go.Proofs.Ytifbmapianddcaa
open Go.RowKit

theorem hLen_is {S : Nat → Prop} {w : World} {h : Nat} {l : List Thing} (H : HeapIs S w h l) : Calls Try.prog 116 #[.pointer (some ⟨h, 0, none⟩)] w fun e w' => e = .returned (.int .i64 l.length) ∧ w = w' := by
  obtain ⟨v, mb, h1, _, _⟩ := H
  exact hLen_any h1

theorem inB_has {W H x y : Int} (hm : mayB W H = true) : inB W H x y = hasB 0 0 W H x y := by
  have := mayB_true.1 hm
  rw [Bool.eq_iff_iff, inB_true, hasB_true]
  omega
theorem beside_adj {W H : Int} {l : List Int} (hm : mayB W H = true) (hu : U16s l) (x y : Int) : ∀ k, (inCells W H ((List.range k).map fun k : Nat => ((k : Int), (x + dirX k, y + dirY k)))).filter (fun q => !decide (costI l W q = 0)) = nbC (openB l W 0 0 W H) x y k
  | 0 => rfl
  | k + 1 => by
    rw [List.range_succ, List.map_append, List.map_cons, List.map_nil, inCells_snoc, List.filter_append, beside_adj hm hu x y k]
    show _ = nbC (openB l W 0 0 W H) x y k ++ if openB l W 0 0 W H (x + dirX k) (y + dirY k) = true then [(x + dirX k, y + dirY k)] else []
    congr 1
    rw [show inB W H ((k : Int), (x + dirX k, y + dirY k)).2.1 ((k : Int), (x + dirX k, y + dirY k)).2.2 = hasB 0 0 W H (x + dirX k) (y + dirY k) from inB_has hm]
    have hc := (costI_bd hu W (x + dirX k, y + dirY k)).1
    unfold openB
    by_cases h1 : hasB 0 0 W H (x + dirX k) (y + dirY k) = true
    · by_cases h2 : costI l W (x + dirX k, y + dirY k) = 0
      · simp [h1, h2]
      · have h3 : 0 < costI l W (x + dirX k, y + dirY k) := by omega
        simp [h1, h2, h3]
    · simp [h1]

section
variable {w w' : World} {sb : Nat} {W H : Int} {a : Option Addr} {n c : Nat} {tx ty : Int} {h mg mc : Nat} {k : Int} {S S' T : Nat → Prop} {K : Nat → HKey} {A : AS} {M : Nat}

/-- The search's memory is as it was, if other blocks alone turn; and its blocks may be told more narrowly. -/
theorem SMem.touch (m : SMem w sb W H a n c tx ty h mg mc k S K A M) (t : Touch T w w') (h1 : ¬ T sb) (h2 : ¬ T mg) (h3 : ¬ T mc) (hs : ∀ j, j < w.heap.size → S j → S' j ∧ ¬ T j) (hn : ¬ S' sb ∧ ¬ S' mg ∧ ¬ S' mc) (hw : ∀ j, w'.heap.size ≤ j → S' j) : SMem w' sb W H a n c tx ty h mg mc k S' K A M where
  sea := Blk.touch m.sea t h1
  gm := by obtain ⟨N, a1, a2⟩ := m.gm; exact ⟨N, a1, a2.touch t h2⟩
  cm := by obtain ⟨N, a1, a2⟩ := m.cm; exact ⟨N, a1, a2.touch t h3⟩
  heap := by
    obtain ⟨ts, a1, a2⟩ := m.heap
    exact ⟨ts, (a1.mono (S' := fun j => S' j ∧ ¬ T j) hs).touch t (fun j hj => hj.2) |>.mono (fun j _ hj => hj.1), a2⟩
  ns := ⟨hn.1, hn.2.1, hn.2.2, m.ns.2.2.2.1, m.ns.2.2.2.2.1, m.ns.2.2.2.2.2⟩
  nw := hw
theorem SMem.wide (m : SMem w sb W H a n c tx ty h mg mc k S K A M) (hs : ∀ j, S j → S' j) (hn : ¬ S' sb ∧ ¬ S' mg ∧ ¬ S' mc) : SMem w sb W H a n c tx ty h mg mc k S' K A M where
  sea := m.sea
  gm := m.gm
  cm := m.cm
  heap := by obtain ⟨ts, a1, a2⟩ := m.heap; exact ⟨ts, a1.mono (fun j _ hj => hs j hj), a2⟩
  ns := ⟨hn.1, hn.2.1, hn.2.2, m.ns.2.2.2.1, m.ns.2.2.2.2.1, m.ns.2.2.2.2.2⟩
  nw := fun j hj => hs j (m.nw j hj)
end

/-- reach, whatever it comes to: one cell beside is taken in. -/
theorem sReach_any {w : World} {sb : Nat} {W H : Int} {a : Option Addr} {n c : Nat} {tx ty : Int} {h mg mc : Nat} {k : Int} {S : Nat → Prop} {A : AS} {M : Nat} (hh : Nat → Int) (m : SMem w sb W H a n c tx ty h mg mc k S (kOf W hh A) A M) (hM : M ≤ 900000) {v : Nat} (hv : 0 ≤ vx W v ∧ vx W v ≤ 1000 ∧ 0 ≤ vy W v ∧ vy W v ≤ 1000) (hW : 1 ≤ W ∧ W ≤ 256) (htx : 0 ≤ tx ∧ tx ≤ 1000) (hty : 0 ≤ ty ∧ ty ≤ 1000) (hv64 : (v : Int) ≤ 100000) (hvh : hh v = manh (vx W v) (vy W v) tx ty) (hop : ∀ u, A.st u ≠ 0 → u < 100000) (h2 : A.st v ≤ 2) {G : Net} {u : Nat} (hx : 0 ≤ A.g u + G.cost v ∧ A.g u + G.cost v ≤ 1000000000000) (hfr : (u : Int) ≤ 1000000) (hset : A.st v = 2 → A.g v ≤ A.g u + G.cost v) :
    Calls Try.prog 69 #[.pointer (some ⟨sb, 0, none⟩), .agg #[.int .i64 (vx W v), .int .i64 (vy W v)], .int .u64 (A.g u + G.cost v), .int .i64 (u : Int)] w fun e w' => e = .returned (.tuple #[]) ∧ SMem w' sb W H a n c tx ty h mg mc k S (kOf W hh (rx G u A v)) (rx G u A v) (M + 1) ∧ Touch (fun j => S j ∨ j = mg ∨ j = mc) w w' := by
  unfold rx
  by_cases ht : A.takes v (A.g u + G.cost v)
  · rw [if_pos ht]
    rcases ht with h0 | ⟨h1, hlt⟩
    · exact sReach_new hh m hM hv hW htx hty hv64 hvh hop _ _ hx (by omega) h0
    · exact sReach_lower hh m hM hv hW htx hty hv64 hvh hop _ _ hx (by omega) h1 hlt
  · rw [if_neg ht]
    have h0 : A.st v ≠ 0 := fun e => ht (.inl e)
    have hge : A.g v ≤ A.g u + G.cost v := by
      by_cases e : A.st v = 2
      · exact hset e
      · exact Int.not_lt.1 fun hlt => ht (.inr ⟨by omega, hlt⟩)
    refine (sReach_skip m hv hW (by omega) _ _ h0 hge).mono ?_
    rintro e w' ⟨h1, h2⟩
    exact ⟨h1, (m.ext h2).few (Nat.le_succ M), Touch.of_ext h2⟩
end Go.Proofs.Ytifbmapianddcaa
