/- The law FloodWays: what is plain in it. -/
import Derived.Test.YtkonojjillcfiaaLawFT
namespace Go.Proofs.Ytkonojjillcfiaa
open Go.RowKit

/-- A way that is told, from its start. -/
structure WayL (G : Net) (far : Nat → Int) (s t : Nat) (q : List Nat) : Prop where
  first : q[0]? = some s
  last : q[q.length - 1]? = some t
  fin : ∀ (i u : Nat), q[i]? = some u → far u < infI
  next : ∀ (i u v : Nat), q[i]? = some u → q[i + 1]? = some v → far v = far u + G.cost v ∧ u ∈ G.adj v

theorem back_way {G : Net} {s : Nat} {far : Nat → Int} (F : IsFar G s far) {v : Nat} {l : List Nat} (h : BackP G far v l) : far v < infI → WayL G far s v l.reverse := by
  induction h with
  | @done v h0 =>
    intro hv
    have hl := (BackP.done (G := G) h0).last F hv
    simp only [List.getLast?_singleton, Option.some.injEq] at hl
    subst hl
    refine ⟨by simp, by simp, fun i u hu => ?_, fun i u w h1 h2 => ?_⟩
    · cases i with
      | zero => simp at hu; subst hu; exact hv
      | succ i => simp at hu
    · simp at h2
  | @step v u l h0 hn hb ih =>
    intro hv
    have hl := next_less F hv hn
    have hs := next_spec hn
    have ih := ih hl.2.1
    obtain ⟨r, rfl⟩ := hb.head
    have hlen : (u :: r).reverse.length = r.length + 1 := by simp
    rw [List.reverse_cons (a := v)]
    have hlast : (u :: r).reverse[r.length]? = some u := by
      have := ih.last
      rw [hlen] at this
      exact this
    refine ⟨?_, ?_, fun i z hz => ?_, fun i y z h1 h2 => ?_⟩
    · rw [List.getElem?_append_left (by rw [hlen]; omega)]
      exact ih.first
    · simp
    · by_cases hi : i < r.length + 1
      · rw [List.getElem?_append_left (by rw [hlen]; omega)] at hz
        exact ih.fin i z hz
      · rw [List.getElem?_append_right (by rw [hlen]; omega)] at hz
        have := List.mem_of_getElem? hz
        simp only [List.mem_singleton] at this
        subst this
        exact hv
    · by_cases hi : i + 1 < r.length + 1
      · rw [List.getElem?_append_left (by rw [hlen]; omega)] at h1 h2
        exact ih.next i y z h1 h2
      · rw [List.getElem?_append_right (by rw [hlen]; omega)] at h2
        have hi2 : i + 1 = r.length + 1 := by
          have := (List.getElem?_eq_some_iff.1 h2).1
          rw [hlen] at this
          simp at this
          omega
        have hz := List.mem_of_getElem? h2
        simp only [List.mem_singleton] at hz
        subst hz
        have hi3 : i = r.length := by omega
        subst hi3
        rw [List.getElem?_append_left (by rw [hlen]; omega), hlast] at h1
        cases h1
        exact ⟨by omega, hs.1⟩

/-- What stands as the sum ahead of a round. -/
def sumAt (far : Nat → Int) (q : List Nat) : Nat → Int
  | 0 => 0
  | i + 1 => far (q.getD i 0)

/-- Whether one of the first k steps leads there. -/
def besB (p r : Cell) : Nat → Bool
  | 0 => false
  | k + 1 => besB p r k || cellB (stepX p.1 (k : Int), stepY p.2 (k : Int)) r

theorem besB_of {p r : Cell} {k : Nat} (h : cellB (stepX p.1 (k : Int), stepY p.2 (k : Int)) r = true) : ∀ {n : Nat}, k < n → besB p r n = true
  | n + 1, hk => by
    unfold besB
    by_cases e : k = n
    · subst e; rw [h]; simp
    · rw [besB_of h (n := n) (by omega)]; rfl

theorem bes_adj {W H : Int} {l : List Int} {bx byy bw bh : Int} (L : LandP W H l bx byy bw bh) {u v : Nat} (h : u ∈ (mapNet L).adj v) : besB (cellV W u) (cellV W v) 4 = true := by
  obtain ⟨p, hp, rfl⟩ := List.mem_map.1 h
  obtain ⟨k, hk, ho, rfl⟩ := mem_nbC.1 hp
  have hin := L.in_ (open_has ho).1
  have e1 := vx_idx (W := W) hin.1 hin.2.1 hin.2.2.1
  have e2 := vy_idx (W := W) hin.1 hin.2.1 hin.2.2.1
  refine besB_of (k := opp k) ?_ opp_lt
  unfold cellV
  rw [cellB_eq, e1, e2, (step_dir opp_lt (vx W v + dirX k) (vy W v + dirY k)).1, (step_dir opp_lt (vx W v + dirX k) (vy W v + dirY k)).2, (opp_dir hk).1, (opp_dir hk).2]
  simp only [decide_eq_true_eq, Prod.mk.injEq]
  constructor <;> omega
end Go.Proofs.Ytkonojjillcfiaa
