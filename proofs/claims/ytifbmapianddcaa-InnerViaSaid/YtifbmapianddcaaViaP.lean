/- The plain law of InnerVia. -/
import Derived.Test.YtifbmapianddcaaNetP
import Derived.Test.YtifbmapianddcaaInP
set_option linter.all false
set_option linter.unusedVariables false
set_option linter.unusedSimpArgs false
namespace Go.Proofs.Ytifbmapianddcaa

/-- The least sum of the first n. -/
def viaN (l : List Int) (ll : List (List Int)) (k : Nat) : Nat → Int
  | 0 => infI
  | n + 1 => min (viaN l ll k n) (satS (l.getD n 0) ((ll.getD n []).getD k 0))
theorem viaN_le {l : List Int} {ll : List (List Int)} {k : Nat} : ∀ {n c : Nat}, c < n → viaN l ll k n ≤ satS (l.getD c 0) ((ll.getD c []).getD k 0)
  | 0, _, h => absurd h (Nat.not_lt_zero _)
  | n + 1, c, h => by
    unfold viaN
    by_cases hc : c = n
    · subst hc; exact Int.min_le_right _ _
    · exact Int.le_trans (Int.min_le_left _ _) (viaN_le (by omega))
theorem viaN_inf {l : List Int} {ll : List (List Int)} {k : Nat} : ∀ {n : Nat}, viaN l ll k n ≤ infI
  | 0 => Int.le_refl _
  | n + 1 => by unfold viaN; exact Int.le_trans (Int.min_le_left _ _) viaN_inf
theorem viaN_ge {l : List Int} {ll : List (List Int)} {k : Nat} {x : Int} (hx : x ≤ infI) : ∀ {n : Nat}, (∀ c, c < n → x ≤ satS (l.getD c 0) ((ll.getD c []).getD k 0)) → x ≤ viaN l ll k n
  | 0, _ => hx
  | n + 1, h => by unfold viaN; exact Int.le_min.2 ⟨viaN_ge hx (fun c hc => h c (by omega)), h n (Nat.lt_succ_self _)⟩

section
variable {W H : Int} {l : List Int} {bx byy bw bh : Int}

theorem rowD_at (L : LandP W H l bx byy bw bh) (cs : List Cell) {i : Nat} {c : Cell} (hi : cs[i]? = some c) : (cs.map (rowD L cs))[i]? = some (rowD L cs c) := by
  rw [List.getElem?_map, hi]; rfl
theorem rowD_getD (L : LandP W H l bx byy bw bh) (cs : List Cell) (p : Cell) {j : Nat} {q : Cell} (hj : cs[j]? = some q) : (rowD L cs p).getD j 0 = farD L p (idxN W q) := by
  unfold rowD
  rw [List.getD_eq_getElem?_getD, List.getElem?_map, hj]; rfl
theorem rows_getD (L : LandP W H l bx byy bw bh) (cs : List Cell) {i : Nat} {c : Cell} (hi : cs[i]? = some c) : (cs.map (rowD L cs)).getD i [] = rowD L cs c := by
  rw [List.getD_eq_getElem?_getD, rowD_at L cs hi]; rfl

theorem satS_inf {a b : Int} (h1 : 0 ≤ a) (h2 : 0 ≤ b) (h : a = infI ∨ b = infI) : satS a b = infI := by
  have e : infI = 18446744073709551615 := rfl
  unfold satS
  split <;> rcases h with h | h <;> omega

/-- By way of each third one nothing is nearer, and by way of the end it is just as far. -/
theorem via_same (L : LandP W H l bx byy bw bh) (hn : l.length ≤ 1000000) (cs : List Cell) {i j : Nat} {p q : Cell} (hi : cs[i]? = some p) (hj : cs[j]? = some q) :
    viaN (rowD L cs p) (cs.map (rowD L cs)) j cs.length = farD L p (idxN W q) := by
  have F := farD_is L p
  have hjl : j < cs.length := (List.getElem?_eq_some_iff.1 hj).1
  apply Int.le_antisymm
  · have h1 := viaN_le (l := rowD L cs p) (ll := cs.map (rowD L cs)) (k := j) hjl
    rw [rows_getD L cs hj, rowD_getD L cs q hj, rowD_getD L cs p hj] at h1
    have F2 := farD_is L q
    cases ho : (mapNet L).op (idxN W q)
    · rw [F.shut _ ho]; exact viaN_inf
    · rw [F2.start ho] at h1
      have : satS (farD L p (idxN W q)) 0 = farD L p (idxN W q) := by
        have := F.le (idxN W q)
        have e : infI = 18446744073709551615 := rfl
        unfold satS; rw [if_pos (by omega)]; omega
      omega
  · refine viaN_ge (F.le _) (fun c hc => ?_)
    obtain ⟨r, hr⟩ : ∃ r, cs[c]? = some r := ⟨_, List.getElem?_eq_getElem hc⟩
    rw [rowD_getD L cs p hr, rows_getD L cs hr, rowD_getD L cs r hj]
    have F2 := farD_is L r
    by_cases h : farD L p (idxN W r) < infI
    · exact three_sat hn F F2 (far_low F) (far_low F2) h
    · have h1 : farD L p (idxN W r) = infI := by have := F.le (idxN W r); omega
      rw [satS_inf (F.nn _) (F2.nn _) (.inl h1)]
      exact F.le _

theorem op_box (L : LandP W H l bx byy bw bh) {c : Cell} (hc : hasB bx byy bw bh c.1 c.2 = true) : (mapNet L).op (idxN W c) = true ↔ 0 < l.getD (idxN W c) 0 := by
  obtain ⟨x, y⟩ := c
  have hin := L.in_ hc
  have hlt := L.idx_lt hin
  show opV (openB l W bx byy bw bh) W l.length _ = true ↔ _
  unfold opV openB
  simp only [Bool.and_eq_true, decide_eq_true_eq]
  rw [L.cost_v, vx_idx hin.1 hin.2.1 hin.2.2.1, vy_idx hin.1 hin.2.1 hin.2.2.1]
  exact ⟨fun h => h.2.2, fun h => ⟨hlt, hc, h⟩⟩

/-- What stands on the diagonal. -/
theorem diag (L : LandP W H l bx byy bw bh) {c : Cell} (hc : hasB bx byy bw bh c.1 c.2 = true) : (0 < l.getD (idxN W c) 0 ∧ farD L c (idxN W c) = 0) ∨ (l.getD (idxN W c) 0 = 0 ∧ farD L c (idxN W c) = infI) := by
  have F := farD_is L c
  have h := op_box L hc
  have hlt := L.idx_lt (L.in_ hc)
  have hb := L.u16 (l.getD (idxN W c) 0) (by rw [List.getD_eq_getElem?_getD, List.getElem?_eq_getElem hlt]; exact List.getElem_mem _)
  by_cases ho : (mapNet L).op (idxN W c) = true
  · exact .inl ⟨h.1 ho, F.start ho⟩
  · refine .inr ⟨?_, F.shut _ (by simpa using ho)⟩
    have : ¬ 0 < l.getD (idxN W c) 0 := fun k => ho (h.2 k)
    omega

theorem whole_le (L : LandP W H l bx byy bw bh) (L2 : LandP W H l 0 0 W H) {c : Cell} {D : Nat → Int} (F : IsFar (mapNet L2) (idxN W c) D) (v : Nat) : D v ≤ farD L c v :=
  IsFar.sub_le (map_sub L L2) (farD_is L c) F v
end
end Go.Proofs.Ytifbmapianddcaa
