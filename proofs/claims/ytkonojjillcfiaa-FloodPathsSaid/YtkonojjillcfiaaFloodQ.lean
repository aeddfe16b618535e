/- The way back, as a list of places. -/
import Derived.Test.YtkonojjillcfiaaFloodN
namespace Go.Proofs.Ytkonojjillcfiaa

def nextV (G : Net) (far : Nat → Int) (v : Nat) : Option Nat := (G.adj v).find? fun u => decide (far u = far v - G.cost v)

/-- The way from a place back to the first one. -/
inductive BackP (G : Net) (far : Nat → Int) : Nat → List Nat → Prop where
  | done {v : Nat} : far v = 0 → BackP G far v [v]
  | step {v u : Nat} {l : List Nat} : 0 < far v → nextV G far v = some u → BackP G far u l → BackP G far v (v :: l)

section
variable {G : Net} {s : Nat} {far : Nat → Int}

theorem next_some (F : IsFar G s far) {v : Nat} (hv : far v < infI) (h0 : 0 < far v) : ∃ u, nextV G far v = some u := by
  have ho := F.open_ hv
  have hs : v ≠ s := fun e => by subst e; have := F.start ho; omega
  obtain ⟨u, hu, _, he⟩ := F.from_ v ho hs hv
  cases h : nextV G far v with
  | some u => exact ⟨u, rfl⟩
  | none =>
    unfold nextV at h
    rw [List.find?_eq_none] at h
    have := h u hu
    simp at this
    omega
theorem next_spec {v u : Nat} (h : nextV G far v = some u) : u ∈ G.adj v ∧ far u + G.cost v = far v := by
  unfold nextV at h
  have h1 := List.mem_of_find?_eq_some h
  have h2 := List.find?_some h
  simp at h2
  exact ⟨h1, by omega⟩
theorem next_less (F : IsFar G s far) {v u : Nat} (hv : far v < infI) (h : nextV G far v = some u) : far u < far v ∧ far u < infI ∧ G.op u = true := by
  have h2 := (next_spec h).2
  have := G.pos v (F.open_ hv)
  exact ⟨by omega, by omega, F.open_ (by omega)⟩

theorem back_ex (F : IsFar G s far) : ∀ (k : Nat) (v : Nat), far v = (k : Int) → far v < infI → ∃ l, BackP G far v l := by
  intro k
  induction k using Nat.strongRecOn with
  | _ k ih =>
    intro v hv hf
    by_cases h0 : far v = 0
    · exact ⟨_, .done h0⟩
    · have hn := F.nn v
      obtain ⟨u, hu⟩ := next_some F hf (by omega)
      have hl := next_less F hf hu
      have hnu := F.nn u
      obtain ⟨l, hl2⟩ := ih (far u).toNat (by omega) u (by omega) hl.2.1
      exact ⟨_, .step (by omega) hu hl2⟩

theorem BackP.head {v : Nat} {l : List Nat} (h : BackP G far v l) : ∃ r, l = v :: r := by cases h <;> exact ⟨_, rfl⟩
theorem BackP.all (F : IsFar G s far) {v : Nat} {l : List Nat} (h : BackP G far v l) : far v < infI → ∀ u, u ∈ l → far u ≤ far v ∧ far u < infI ∧ Way G u v (far v - far u) := by
  induction h with
  | done h0 =>
    intro hv u hu
    simp only [List.mem_singleton] at hu
    subst hu
    exact ⟨Int.le_refl _, hv, (Way.start (F.open_ hv)).cast (by omega)⟩
  | @step v u l h0 hn hb ih =>
    intro hv w hw
    rcases List.mem_cons.1 hw with rfl | hw
    · exact ⟨Int.le_refl _, hv, (Way.start (F.open_ hv)).cast (by omega)⟩
    · have hl := next_less F hv hn
      have hs := next_spec hn
      obtain ⟨i1, i2, i3⟩ := ih hl.2.1 w hw
      exact ⟨by omega, i2, (Way.step i3 hs.1 (F.open_ hv)).cast (by omega)⟩
theorem BackP.nodup (F : IsFar G s far) {v : Nat} {l : List Nat} (h : BackP G far v l) : far v < infI → l.Nodup := by
  induction h with
  | done _ => intro _; simp
  | @step v u l h0 hn hb ih =>
    intro hv
    have hl := next_less F hv hn
    refine List.nodup_cons.2 ⟨fun hm => ?_, ih hl.2.1⟩
    have := (hb.all F hl.2.1 v hm).1
    omega
theorem BackP.few (F : IsFar G s far) {v : Nat} {l : List Nat} (h : BackP G far v l) (hv : far v < infI) : l.length ≤ G.n :=
  nodup_le (h.nodup F hv) fun u hu => G.lt u (F.open_ (h.all F hv u hu).2.1)
theorem BackP.last (F : IsFar G s far) {v : Nat} {l : List Nat} (h : BackP G far v l) : far v < infI → l.getLast? = some s := by
  induction h with
  | @done v h0 =>
    intro hv
    have ho := F.open_ hv
    by_cases e : v = s
    · simp [e]
    · obtain ⟨u, _, _, he⟩ := F.from_ v ho e hv
      have := G.pos v ho
      have := F.nn u
      omega
  | @step v u l h0 hn hb ih =>
    intro hv
    obtain ⟨r, hr⟩ := hb.head
    rw [hr] at ih ⊢
    exact ih (next_less F hv hn).2.1
/-- There is one way back only. -/
theorem BackP.one {v : Nat} {l m : List Nat} (h : BackP G far v l) : BackP G far v m → l = m := by
  intro k
  induction h generalizing m with
  | done h0 => cases k with
    | done _ => rfl
    | step h1 _ _ => omega
  | step h0 hn hb ih => cases k with
    | done h1 => omega
    | step h1 hn2 hb2 =>
      rw [hn] at hn2
      cases hn2
      rw [ih hb2]
end
end Go.Proofs.Ytkonojjillcfiaa
