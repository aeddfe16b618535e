/- A region that draws its order, walked along one order: what may be taken first is taken first, what acts is carried out alone. -/
import Derived.Test.YtifbmapianddcaaLib
namespace Go.Proofs.Ytifbmapianddcaa
open Go.RowKit

/-- The order is one that a walk may take: (i, true) is free, (i, false) comes up alone. -/
def okOrder (md : Region.Mode) (ops : Array Oper) : List (Nat × Bool) → Array Bool → Bool
  | [], listed => (Region.ready md ops listed).isEmpty
  | (i, true) :: r, listed => (Region.ready md ops listed).contains i && Region.free md ops listed i && okOrder md ops r (listed.setIfInBounds i true)
  | (i, false) :: r, listed => Region.ready md ops listed == [i] && okOrder md ops r (listed.setIfInBounds i true)

/-- The rest of a region in a given order. -/
def SeqH (P : Program) (ops : Array Oper) (Q : Exit → Act → World → Prop) (S : World → Prop) : List (Nat × Bool) → Act → World → Prop
  | [], a, w => Q .normal a w
  | (i, true) :: r, a, w => ∃ oi v, ops[i]? = some oi ∧ YieldsIf P ops S oi v a ∧ SeqH P ops Q S r (a.put oi.dst v) w
  | (i, false) :: r, a, w => ∃ oi, ops[i]? = some oi ∧ ∀ K' : Act → World → Prop, Shut (∀ a w, S w → (S w → SeqH P ops Q S r a w) → K' a w) → if Region.wanted oi (yielded ops a.tmps) = true then Oper.wp P oi a w K' Q else K' (a.put oi.dst undef) w

section
variable {P : Program} {ops : Array Oper} {Q : Exit → Act → World → Prop} {S : World → Prop}

theorem SeqH.free {i : Nat} {r : List (Nat × Bool)} {oi : Oper} {v : Value} {a : Act} {w : World} (hi : ops[i]? = some oi) (hy : YieldsIf P ops S oi v a) (h : SeqH P ops Q S r (a.put oi.dst v) w) : SeqH P ops Q S ((i, true) :: r) a w := ⟨oi, v, hi, hy, h⟩
theorem SeqH.step {i : Nat} {r : List (Nat × Bool)} {oi : Oper} {a : Act} {w : World} (hi : ops[i]? = some oi) (h : ∀ K' : Act → World → Prop, Shut (∀ a w, S w → (S w → SeqH P ops Q S r a w) → K' a w) → if Region.wanted oi (yielded ops a.tmps) = true then Oper.wp P oi a w K' Q else K' (a.put oi.dst undef) w) : SeqH P ops Q S ((i, false) :: r) a w := ⟨oi, hi, h⟩
theorem SeqH.done {a : Act} {w : World} (h : Q .normal a w) : SeqH P ops Q S [] a w := h

theorem SeqH.any {md : Region.Mode} (hs : Region.noSelect ops = true) (hQ : ∀ c a d v w, Q (.panic c) (a.put d v) w → Q (.panic c) a w) : ∀ (r : List (Nat × Bool)) (fuel : Nat) (listed : Array Bool) (a : Act) (w : World), okOrder md ops r listed = true → r.length ≤ fuel → S w → SeqH P ops Q S r a w → wpAnyH P md ops Q S fuel listed a w
  | [], fuel, listed, a, w, hk, _, _, h => wpAnyH_done (by unfold okOrder at hk; exact List.isEmpty_iff.1 hk) h fuel
  | (i, true) :: r, 0, _, _, _, _, hf, _, _ => absurd hf (by simp)
  | (i, false) :: r, 0, _, _, _, _, hf, _, _ => absurd hf (by simp)
  | (i, true) :: r, fuel + 1, listed, a, w, hk, hf, hS, h => by
    unfold okOrder at hk
    simp only [Bool.and_eq_true] at hk
    obtain ⟨oi, v, hi, hy, h⟩ := h
    exact wpAnyH_take hi hs hk.1.2 hk.1.1 (fun c a w => hQ c a _ _ w) hy hS (SeqH.any hs hQ r fuel _ _ w hk.2 (by simpa using hf) hS h)
  | (i, false) :: r, fuel + 1, listed, a, w, hk, hf, hS, h => by
    unfold okOrder at hk
    simp only [Bool.and_eq_true, beq_iff_eq] at hk
    obtain ⟨oi, hi, h⟩ := h
    refine wpAnyH_ready hk.1 (by simp) (AllReadyH.cons hi (fun K hK => ?_) AllReadyH.nil)
    exact h K (fun a' w' hS' hseq => hK.out a' w' hS' (fun _ => SeqH.any hs hQ r fuel _ a' w' hk.2 (by simpa using hf) hS' (hseq hS')))

/-- The beginning. -/
theorem seqH_start {id : Nat} {a : Act} {w : World} (r : List (Nat × Bool)) (hm : P.follows .mixedOrders = true) (hs : Region.noSelect ops = true) (hk : okOrder .any ops r (Array.replicate ops.size false) = true) (hl : (r.length ≤ ops.size : Prop))
    (hQ : ∀ c a d v w, Q (.panic c) (a.put d v) w → Q (.panic c) a w) (hS : S w.drew) (h : S w.drew → SeqH P ops Q S r a w.drew) : (Code.region id ops true).wp P Q a w :=
  wp_region_held_drew hm hS (fun hS' => SeqH.any hs hQ r _ _ _ _ hk hl hS' (h hS'))
end
end Go.Proofs.Ytifbmapianddcaa
