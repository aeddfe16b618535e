/- That there is a solution of how far all are. -/
import Derived.Test.YtifbmapianddcaaFloodN
set_option linter.all false
set_option linter.unusedVariables false
set_option linter.unusedSimpArgs false
namespace Go.Proofs.Ytifbmapianddcaa

/-- How far all are, exists. -/
theorem far_ex (G : Net) (s : Nat) (hs : G.op s = true) : ∃ D, IsFar G s D := by
  have e : infI = 18446744073709551615 := rfl
  have hdec : ∀ v, ∃ d : Int, (0 ≤ d ∧ d ≤ infI) ∧ (∀ c, Way G s v c → c < infI → d ≤ c) ∧ (d < infI → Way G s v d) := by
    intro v
    by_cases h : ∃ c : Nat, Way G s v (c : Int) ∧ (c : Int) < infI
    · obtain ⟨c0, h0, hl0⟩ := h
      have : ∀ k c : Nat, c ≤ k → Way G s v (c : Int) → ∃ m : Nat, m ≤ c ∧ Way G s v (m : Int) ∧ ∀ c' : Nat, Way G s v (c' : Int) → m ≤ c' := by
        intro k
        induction k with
        | zero => intro c hk hw; exact ⟨c, Nat.le_refl _, hw, fun c' _ => by omega⟩
        | succ k ih =>
          intro c hk hw
          by_cases hex : ∃ c', Way G s v ((c' : Nat) : Int) ∧ c' < c
          · obtain ⟨c', h1, h2⟩ := hex
            obtain ⟨m, a1, a2, a3⟩ := ih c' (by omega) h1
            exact ⟨m, by omega, a2, a3⟩
          · exact ⟨c, Nat.le_refl _, hw, fun c' hw' => Nat.not_lt.1 fun hlt => hex ⟨c', hw', hlt⟩⟩
      obtain ⟨m, hm0, hm, hmin⟩ := this c0 c0 (Nat.le_refl _) h0
      exact ⟨m, ⟨by omega, by omega⟩, fun c' hw _ => by
        have h1 := hw.ends.2.2
        have := hmin c'.toNat (hw.cast (by omega))
        omega, fun _ => hm⟩
    · exact ⟨infI, ⟨by omega, Int.le_refl _⟩, fun c hw hl => absurd ⟨c.toNat, hw.cast (by have := hw.ends.2.2; omega), by have := hw.ends.2.2; omega⟩ h, fun h => absurd h (Int.lt_irrefl _)⟩
  obtain ⟨D, hD⟩ := Classical.axiomOfChoice hdec
  have hinf : ∀ v, D v < infI → Way G s v (D v) := fun v => (hD v).2.2
  refine ⟨D, ?_, ?_, fun v => (hD v).1.1, fun v => (hD v).1.2, ?_, ?_⟩
  · intro _
    have h1 := (hD s).1.1
    have h2 := (hD s).2.1 0 (.start hs) (by omega)
    omega
  · intro v hv
    by_cases h : D v < infI
    · have := (hinf v h).ends.2.1
      rw [hv] at this; cases this
    · have := (hD v).1.2; omega
  · intro v ho _ u hu huo hlt
    have hw := hinf u (by have := G.pos v ho; omega)
    exact (hD v).2.1 _ (.step hw hu ho) hlt
  · intro v ho hvs hlt
    have hw := hinf v hlt
    generalize hd : D v = d at hw
    cases hw with
    | start h => exact absurd rfl hvs
    | step hw' hu ho' =>
      rename_i u c
      have hou := hw'.ends
      have hp := G.pos v ho
      have h1 := (hD u).2.1 _ hw' (by omega)
      have h2 := (hD v).2.1 _ (.step (hinf u (by omega)) hu ho) (by omega)
      exact ⟨u, hu, hou.2.1, by omega⟩

theorem far_all (G : Net) (s : Nat) : ∃ D, IsFar G s D := by
  cases h : G.op s
  · exact ⟨fun _ => infI, ⟨(fun k => by rw [h] at k; cases k), (fun _ _ => rfl), (fun _ => by decide), (fun _ => Int.le_refl _), (fun v hv _ _ _ _ hlt => by have := G.pos v hv; have : infI + G.cost v < infI := hlt; omega), (fun v _ _ hlt => absurd hlt (Int.lt_irrefl _))⟩⟩
  · exact far_ex G s h
end Go.Proofs.Ytifbmapianddcaa
