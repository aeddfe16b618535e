/- Plain: two turns, one behind the other, and back; the place of a cluster among those told. -/
import Derived.Test.YtkioohhjjdlhiaaGreatTurnP
import Derived.Test.YtkioohhjjdlhiaaGreatRedJ
set_option linter.all false
set_option linter.unusedVariables false
set_option linter.unusedSimpArgs false
namespace Go.Proofs.YtkioohhjjdlhiaaGreat
open Go.RowKit

theorem kept_two {W H : Int} {l : List Int} (hc : checkE W H l.length = 0) (E E' : List (Int × Int)) : keptB W l (turnL (turnL l E) E') (namedL W l.length E false ++ namedL W l.length E' false) = true := by
  have k1 := named_kept hc E
  have k2 := named_kept (W := W) (H := H) (l := turnL l E) (by rw [turnL_len]; exact hc) E'
  rw [turnL_len] at k2
  unfold keptB at k1 k2 ⊢
  rw [turnL_len] at k1
  rw [turnL_len, turnL_len] at k2 ⊢
  refine List.all_eq_true.2 fun i hi => ?_
  have h1 := List.all_eq_true.1 k1 i hi
  have h2 := List.all_eq_true.1 k2 i hi
  rw [Bool.or_eq_true] at h1 h2
  rw [List.any_append]
  rcases h1 with h1 | h1
  · rcases h2 with h2 | h2
    · rw [show (turnL (turnL l E) E').getD i 0 = l.getD i 0 from (of_decide_eq_true h2).trans (of_decide_eq_true h1)]; simp
    · rw [h2]; simp
  · rw [h1]; simp
theorem kept_refl (W : Int) (l : List Int) (cs : List Cell) : keptB W l l cs = true := by unfold keptB; simp
theorem kept_back {W : Int} {l l' : List Int} {cs : List Cell} (hl : l'.length = l.length) (h : keptB W l l' cs = true) : keptB W l' l cs = true := by
  unfold keptB at h ⊢
  rw [hl] at h
  refine List.all_eq_true.2 fun i hi => ?_
  have h1 := List.all_eq_true.1 h i hi
  rw [Bool.or_eq_true] at h1 ⊢
  exact h1.imp (fun e => by rw [of_decide_eq_true e]; simp) id
theorem two_in {W H : Int} {l : List Int} (hc : checkE W H l.length = 0) (E E' : List (Int × Int)) : ((namedL W l.length E false ++ namedL W l.length E' false).all fun c => inB W H c.1 c.2) = true := by
  rw [List.all_append, named_in hc E false, named_in hc E' false]; rfl
theorem two_ok {W H : Int} {l : List Int} (hc : checkE W H l.length = 0) (E E' : List (Int × Int)) :
    updE W H l W H (turnL l E) (namedL W l.length E false) = 0 ∧ updE W H (turnL l E) W H (turnL (turnL l E) E') (namedL W l.length E' false) = 0 ∧
    updE W H l W H (turnL (turnL l E) E') (namedL W l.length E false ++ namedL W l.length E' false) = 0 ∧
    updE W H (turnL (turnL l E) E') W H (turnL (turnL l E) E') (namedL W l.length E false ++ namedL W l.length E' false) = 0 ∧
    updE W H (turnL (turnL l E) E') W H l (namedL W l.length E false ++ namedL W l.length E' false) = 0 := by
  have h1 : checkE W H (turnL l E).length = 0 := by rw [turnL_len]; exact hc
  have h2 : checkE W H (turnL (turnL l E) E').length = 0 := by rw [turnL_len, turnL_len]; exact hc
  refine ⟨updE_ok h1 (named_in hc E false) (named_kept hc E), updE_ok h2 (named_in hc E' false) ?_, updE_ok h2 (two_in hc E E') (kept_two hc E E'), updE_ok h2 (two_in hc E E') (kept_refl _ _ _), updE_ok hc (two_in hc E E') (kept_back (by rw [turnL_len, turnL_len]) (kept_two hc E E'))⟩
  have := named_kept (W := W) (H := H) (l := turnL l E) h1 E'
  rw [turnL_len] at this
  exact this

/-- How many below k are such. -/
def tn (p : Nat → Bool) (k : Nat) : Nat := ((List.range k).filter p).length
theorem tn_succ (p : Nat → Bool) (k : Nat) : tn p (k + 1) = tn p k + if p k = true then 1 else 0 := by
  unfold tn
  rw [List.range_succ, List.filter_append, List.length_append]
  by_cases h : p k = true <;> simp [h]
theorem tn_le (p : Nat → Bool) (k : Nat) : tn p k ≤ k := by
  unfold tn
  exact Nat.le_trans (List.length_filter_le _ _) (by rw [List.length_range]; exact Nat.le_refl _)
theorem tn_at {p : Nat → Bool} {k : Nat} (hp : p k = true) : ∀ {N : Nat}, k < N → ((List.range N).filter p)[tn p k]? = some k
  | N + 1, hk => by
    rw [List.range_succ, List.filter_append]
    by_cases h : k < N
    · have h1 := tn_at hp h
      have h2 := (List.getElem?_eq_some_iff.1 h1).1
      rw [List.getElem?_append_left h2]
      exact h1
    · obtain rfl : k = N := by omega
      unfold tn
      rw [List.getElem?_append_right (Nat.le_refl _), Nat.sub_self]
      simp [hp]
theorem tn_lt {p : Nat → Bool} {k N : Nat} (hp : p k = true) (hk : k < N) : tn p k < tn p N := (List.getElem?_eq_some_iff.1 (tn_at hp hk)).1

/-- Is a cluster named? -/
def namedC (W s : Int) (cs : List Cell) (i : Nat) : Bool := cs.any fun c => idC W s c == i
theorem toldU_still (W H s : Int) (l : List Int) (cs : List Cell) (N : Nat) : toldU W H s l l cs N = ((List.range N).filter (namedC W s cs)).map fun i : Nat => (i : Int) := by
  unfold toldU namedC
  refine congrArg (List.map _) (List.filter_congr fun i _ => ?_)
  simp
theorem told_len (W H s : Int) (l : List Int) (cs : List Cell) (N : Nat) : (toldU W H s l l cs N).length = tn (namedC W s cs) N := by
  rw [toldU_still, List.length_map]; rfl
theorem told_at {W H s : Int} {l : List Int} {cs : List Cell} {N k : Nat} (hk : k < N) (hp : namedC W s cs k = true) : (toldU W H s l l cs N)[tn (namedC W s cs) k]? = some (k : Int) := by
  rw [toldU_still, List.getElem?_map, tn_at hp hk]; rfl
theorem namedC_snoc (W s : Int) (cs : List Cell) (c : Cell) (i : Nat) : namedC W s (cs ++ [c]) i = (namedC W s cs i || idC W s c == i) := by
  unfold namedC
  rw [List.any_append]
  simp
end Go.Proofs.YtkioohhjjdlhiaaGreat
