/- Arguments that came in as data, opened: slices of structs of two numbers. -/
import Derived.Test.YtgaeelojgoageaaLib
import Derived.ProofKit
import Derived.OpenShut
import Derived.ShutString
import Derived.ChangeOld
import Derived.Deep.Slices
namespace Go.Proofs.Ytgaeelojgoageaa
open Go.RowKit Go.ChangeShapes Go.WideShapes Go.ChangeAt

theorem list_of {α : Type} {Q : Nat → α → Prop} (n : Nat) (h : ∀ i, i < n → ∃ a, Q i a) : ∃ l : List α, l.length = n ∧ ∀ i (hi : i < l.length), Q i l[i] := by
  induction n with
  | zero => exact ⟨[], rfl, fun i hi => by simp at hi⟩
  | succ n ih =>
    obtain ⟨l, hl, hq⟩ := ih (fun i hi => h i (by omega))
    obtain ⟨a, ha⟩ := h n (by omega)
    refine ⟨l ++ [a], by simp [hl], fun i hi => ?_⟩
    by_cases hin : i < l.length
    · rw [List.getElem_append_left hin]; exact hq i hin
    · have e : i = l.length := by simp at hi; omega
      subst e
      rw [List.getElem_append_right (Nat.le_refl _)]
      simpa [hl] using ha

section
variable {H : Type} {enc : TypeId × Value → H} {P : Program} {w : World} {base : Nat} {spare : Nat → Bool} {held : Bool}

/-- A slice of structs of two numbers of given kinds. -/
theorem open_pairs2 {t e t0 t1 : TypeId} {q0 q1 : IntKind} {f0 f1 : Field} {fuel : Nat} {cs : List Value} {x : DataW H × List MemPlace} (ht : P.underlying t = some (.slice e)) (he : P.underlying e = some (.struct #[f0, f1])) (hC : P.cellsOf e = 2)
    (e0 : f0.type = t0 ∧ f0.offset = 0) (e1 : f1.type = t1 ∧ f1.offset = 1) (h0 : P.underlying t0 = some (.int q0)) (h1 : P.underlying t1 = some (.int q1)) (c0 : P.cellsOf t0 = 1) (c1 : P.cellsOf t1 = 1)
    (h : DataW.trod enc P w base spare held fuel t cs = some x) :
    cs = [.slice none 0 0] ∨ ∃ a len cap, cs = [.slice a len cap] ∧ len ≤ maxLen ∧ (0 < len → ∃ b off, ∃ l : List (Int × Int), a = some ⟨b, off, none⟩ ∧ b < w.heap.size ∧ l.length = len ∧
      ∀ k (hk : k < l.length), (w.cell? ⟨b, off + k * 2, none⟩ = some (.int q0 l[k].1) ∧ w.cell? ⟨b, off + k * 2 + 1, none⟩ = some (.int q1 l[k].2)) ∧ (Lit.int q0 l[k].1).wf = true ∧ (Lit.int q1 l[k].2).wf = true) := by
  rcases Go.Deep.open_slice ht h with h | ⟨a, len, cap, m, n, D, Pl, rfl, _, hl, hm, hmm, _, hi⟩
  · exact .inl h.1
  · refine .inr ⟨some a, len, cap, rfl, by omega, fun hpos => ?_⟩
    have each : ∀ i, i < len → ∃ p : Int × Int, (w.cell? (a.add (i * 2)) = some (.int q0 p.1) ∧ w.cell? (a.add (i * 2 + 1)) = some (.int q1 p.2)) ∧ (Lit.int q0 p.1).wf = true ∧ (Lit.int q1 p.2).wf = true := by
      intro i hlt
      obtain ⟨cs', hc, ht'⟩ := hi i (by rw [hmm]; split <;> omega)
      rw [hC] at hc
      obtain ⟨_, hlen, hat⟩ := World.cells?_some hc
      obtain ⟨xs, n', _, _, _, hxl, hf⟩ := DataW.trod_struct he ht'
      match cs', hlen, xs, hxl with
      | [v0, v1], _, [y0, y1], _ =>
        have g0 := hf 0 f0 rfl
        have g1 := hf 1 f1 rfl
        rw [e0.1, e0.2, c0] at g0
        rw [e1.1, e1.2, c1] at g1
        obtain ⟨p0, hp0, _, hw0⟩ := DataW.trod_int h0 g0
        obtain ⟨p1, hp1, _, hw1⟩ := DataW.trod_int h1 g1
        simp at hp0 hp1
        subst hp0
        subst hp1
        have a0 := hat 0 (by omega)
        have a1 := hat 1 (by omega)
        rw [Go.Deep.add_add] at a0 a1
        exact ⟨(p0, p1), ⟨a0, a1⟩, hw0, hw1⟩
    obtain ⟨l, hll, hq⟩ := list_of len each
    obtain ⟨b, off, spot⟩ := a
    have z0 := (hq 0 (by omega)).1.1
    rw [Nat.zero_mul] at z0
    have hspot : spot = none := by simpa [Addr.add] using World.cell?_spot z0
    subst hspot
    have hb : b < w.heap.size := World.block_lt_of_cell? w _ z0
    refine ⟨b, off, l, rfl, hb, hll, fun k hk => ?_⟩
    have := hq k hk
    rw [Addr.add_lit, Addr.add_lit] at this
    exact this
end
end Go.Proofs.Ytgaeelojgoageaa
