/- Plain facts for the statement PartSides: a border's pairs as the loop meets them. -/
import Derived.Test.YtgaeelojgoageaaSidesA
namespace Go.Proofs.Ytgaeelojgoageaa
open Go.RowKit

theorem border_two {W H s lo hi : Int} (hr : rightB W H s = true) (h : Pair W H s lo hi) :
    (∀ w, Calls Try.prog 23 #[.agg #[.int .i64 W, .int .i64 H, .int .i64 s], .int .i64 lo, .int .i64 hi] w (RetPairs w (borderL W H s lo hi) 0)) ∧
    (∀ w, Calls Try.prog 23 #[.agg #[.int .i64 W, .int .i64 H, .int .i64 s], .int .i64 hi, .int .i64 lo] w (RetPairs w (borderL W H s lo hi) 0)) := by
  have hlt := h.lt hr
  have h0 := h.lo0
  have h1 := h.hi1
  have hm := (h.mem hr).1
  constructor
  · intro w
    have e1 : min lo hi = lo := by omega
    have e2 : max lo hi = hi := by omega
    have := Border_yes W H s lo hi w hr h0 (by omega) (by omega) h1 (by rw [e1, e2]; exact hasI_iff.2 hm)
    rwa [e1, e2] at this
  · intro w
    have e1 : min hi lo = lo := by omega
    have e2 : max hi lo = hi := by omega
    have := Border_yes W H s hi lo w hr (by omega) h1 h0 (by omega) (by rw [e1, e2]; exact hasI_iff.2 hm)
    rwa [e1, e2] at this

def aft (k0 j : Nat) : Int := if k0 < j then 1 else 0
theorem aft_bd (k0 j : Nat) : 0 ≤ aft k0 j ∧ aft k0 j ≤ 1 := by unfold aft; split <;> omega
theorem aft_hit {k0 j : Nat} (h : j = k0) : aft k0 (j + 1) = aft k0 j + 1 := by unfold aft; rw [if_pos (by omega), if_neg (by omega)]; rfl
theorem aft_miss {k0 j : Nat} (h : ¬ j = k0) : aft k0 (j + 1) = aft k0 j := by unfold aft; by_cases h' : k0 < j <;> simp [h'] <;> omega

/-- What the loop wants of the border's k-th pair: 'flat' tells whether the two clusters lie side by side. -/
structure Kth (W H s lo hi : Int) (L : List (Cell × Cell)) (flat : Bool) (k : Nat) (r : Cell × Cell) : Prop where
  inA : inB W H r.1.1 r.1.2 = true
  inB : inB W H r.2.1 r.2.2 = true
  ofA : ofN W s r.1.1 r.1.2 = lo
  ofB : ofN W s r.2.1 r.2.2 = hi
  right : cellB (r.1.1 + 1, r.1.2) r.2 = flat
  down : cellB (r.1.1, r.1.2 + 1) r.2 = !flat
  rise : ∀ (j : Nat) (t : Cell × Cell), k = j + 1 → L[j]? = some t → (flat = true → t.1.2 + 1 = r.1.2) ∧ (flat = false → t.1.2 = r.1.2 ∧ t.1.1 + 1 = r.1.1)

theorem kth_of {W H s lo hi : Int} (hr : rightB W H s = true) (h : Pair W H s lo hi) : ∃ flat : Bool, ∀ (k : Nat) (r : Cell × Cell), (borderL W H s lo hi)[k]? = some r → Kth W H s lo hi (borderL W H s lo hi) flat k r := by
  by_cases hrow : boxY W s lo = boxY W s hi
  · refine ⟨true, fun k r hk => ?_⟩
    obtain ⟨a1, a2, a3, a4, a5⟩ := border_at hr h hk
    rcases a5 with ⟨e, hw, rfl, hkH⟩ | ⟨hne, _⟩
    · refine ⟨a1, a2, a3, a4, by simp [cellB], by simp [cellB]; omega, ?_⟩
      intro j t hkj hj
      obtain ⟨_, _, _, _, b5⟩ := border_at hr h hj
      rcases b5 with ⟨_, _, rfl, _⟩ | ⟨hne, _⟩
      · subst hkj
        exact ⟨(fun _ => by simp only [Int.natCast_add]; omega), (fun h => by cases h)⟩
      · exact absurd hrow hne
    · exact absurd hrow hne
  · refine ⟨false, fun k r hk => ?_⟩
    obtain ⟨a1, a2, a3, a4, a5⟩ := border_at hr h hk
    rcases a5 with ⟨e, hw, rfl, hkH⟩ | ⟨hne, rfl, hkW⟩
    · have pr := Pair.right hr h.lo0 hw
      rw [← e] at pr
      exact absurd pr.2.symm hrow
    · refine ⟨a1, a2, a3, a4, by simp [cellB]; omega, by simp [cellB], ?_⟩
      intro j t hkj hj
      obtain ⟨_, _, _, _, b5⟩ := border_at hr h hj
      rcases b5 with ⟨e, hw, _, _⟩ | ⟨_, rfl, _⟩
      · have pr := Pair.right hr h.lo0 hw
        rw [← e] at pr
        exact absurd pr.2.symm hrow
      · subst hkj
        exact ⟨(fun h => by cases h), (fun _ => ⟨rfl, by simp only [Int.natCast_add]; omega⟩)⟩
end Go.Proofs.Ytgaeelojgoageaa
