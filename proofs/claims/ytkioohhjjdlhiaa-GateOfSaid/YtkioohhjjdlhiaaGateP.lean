/- Plain laws on runs of open places in a row: their middles. -/
set_option linter.all false
set_option linter.unusedVariables false
set_option linter.unusedSimpArgs false
namespace Go.Proofs.Ytkioohhjjdlhiaa

/-- How many of the first n are true without a gap. -/
def run1 (f : Nat → Bool) : Nat → Nat
  | 0 => 0
  | n + 1 => if f 0 = true then 1 + run1 (fun j => f (j + 1)) n else 0

theorem run1_spec (n : Nat) : ∀ f : Nat → Bool, run1 f n ≤ n ∧ (∀ j, j < run1 f n → f j = true) ∧ (run1 f n < n → f (run1 f n) = false) := by
  induction n with
  | zero => intro f; exact ⟨Nat.le_refl _, fun j hj => by simp [run1] at hj, fun h => by simp [run1] at h⟩
  | succ n ih =>
    intro f
    have h := ih (fun j => f (j + 1))
    unfold run1
    by_cases h0 : f 0 = true
    · rw [if_pos h0]
      refine ⟨by omega, fun j hj => ?_, fun hl => ?_⟩
      · cases j with
        | zero => exact h0
        | succ j => exact h.2.1 j (by omega)
      · have := h.2.2 (by omega)
        rw [Nat.add_comm]; exact this
    · rw [if_neg h0]
      exact ⟨by omega, fun j hj => by omega, fun _ => by simpa using h0⟩

theorem run1_eq {f : Nat → Bool} {n a : Nat} (ha : a ≤ n) (h1 : ∀ j, j < a → f j = true) (h2 : a = n ∨ f a = false) : run1 f n = a := by
  obtain ⟨s1, s2, s3⟩ := run1_spec n f
  apply Nat.le_antisymm
  · apply Nat.le_of_not_lt
    intro h
    have := s2 a h
    rcases h2 with h2 | h2
    · omega
    · rw [h2] at this; cases this
  · apply Nat.le_of_not_lt
    intro h
    have k1 := s3 (by omega)
    rw [h1 _ h] at k1
    cases k1

/-- Where the run ends that begins at i. -/
def stopI (o : Nat → Bool) (n i : Nat) : Nat := i + run1 (fun j => o (i + j)) (n - i)
theorem stop_eq {o : Nat → Bool} {n i e : Nat} (h0 : i ≤ e) (hn : e ≤ n) (h1 : ∀ j, i ≤ j → j < e → o j = true) (h2 : e = n ∨ o e = false) : stopI o n i = e := by
  unfold stopI
  rw [run1_eq (a := e - i) (by omega) (fun j hj => h1 _ (by omega) (by omega)) (by
    rcases h2 with h2 | h2
    · left; omega
    · right; rw [show i + (e - i) = e by omega]; exact h2)]
  omega
theorem stop_spec {o : Nat → Bool} {n i : Nat} (hi : i ≤ n) : i ≤ stopI o n i ∧ stopI o n i ≤ n ∧ (∀ j, i ≤ j → j < stopI o n i → o j = true) ∧ (stopI o n i = n ∨ o (stopI o n i) = false) := by
  obtain ⟨s1, s2, s3⟩ := run1_spec (n - i) (fun j => o (i + j))
  unfold stopI
  refine ⟨by omega, by omega, fun j h1 h2 => ?_, ?_⟩
  · have := s2 (j - i) (by omega)
    rwa [show i + (j - i) = j by omega] at this
  · by_cases h : run1 (fun j => o (i + j)) (n - i) < n - i
    · exact .inr (s3 h)
    · left; omega
theorem stop_gt {o : Nat → Bool} {n i : Nat} (hi : i < n) (h : o i = true) : i < stopI o n i := by
  obtain ⟨s1, _, _, s4⟩ := stop_spec (o := o) (n := n) (i := i) (by omega)
  apply Nat.lt_of_le_of_ne s1
  intro e
  rw [← e] at s4
  rcases s4 with s4 | s4
  · omega
  · rw [h] at s4; cases s4

/-- The middles of the runs from i on. -/
def gatesI (o : Nat → Bool) (n i : Nat) : List Nat :=
  if h : i < n then
    if ho : o i = true then (i + (stopI o n i - i - 1) / 2) :: gatesI o n (stopI o n i)
    else gatesI o n (i + 1)
  else []
termination_by n - i
decreasing_by
  · have := stop_gt h ho; omega
  · omega

theorem gates_end {o : Nat → Bool} {n : Nat} : gatesI o n n = [] := by unfold gatesI; simp
theorem gates_shut {o : Nat → Bool} {n i : Nat} (h : i < n) (ho : o i = false) : gatesI o n i = gatesI o n (i + 1) := by
  rw [gatesI, dif_pos h, dif_neg (by simp [ho])]
theorem gates_run {o : Nat → Bool} {n i e : Nat} (h : i < e) (he : e ≤ n) (h1 : ∀ j, i ≤ j → j < e → o j = true) (h2 : e = n ∨ o e = false) : gatesI o n i = (i + (e - i - 1) / 2) :: gatesI o n e := by
  rw [gatesI, dif_pos (by omega), dif_pos (h1 i (Nat.le_refl _) h), stop_eq (by omega) he h1 h2]

/-! ### each place asked by itself -/
def aheadI (o : Nat → Bool) (i : Nat) : Nat := run1 (fun j => o (i - 1 - j)) i
def behindI (o : Nat → Bool) (n i : Nat) : Nat := run1 (fun j => o (i + 1 + j)) (n - i - 1)
def midI (o : Nat → Bool) (n i : Nat) : Bool := o i && decide (aheadI o i = (aheadI o i + behindI o n i) / 2)
def refI (o : Nat → Bool) (n m : Nat) : List Nat := (List.range m).filter (midI o n)
theorem refI_succ (o : Nat → Bool) (n m : Nat) : refI o n (m + 1) = refI o n m ++ if midI o n m = true then [m] else [] := by
  unfold refI
  rw [List.range_succ, List.filter_append]
  congr 1
  by_cases h : midI o n m = true <;> simp [h]

theorem filter_one (x : Nat) : ∀ (c i : Nat), i ≤ x → x < i + c → (List.range' i c).filter (fun k => decide (k = x)) = [x]
  | 0, i, h1, h2 => by omega
  | c + 1, i, h1, h2 => by
    rw [List.range'_succ, List.filter_cons]
    by_cases h : i = x
    · subst h
      simp only [decide_true, if_true]
      congr 1
      rw [List.filter_eq_nil_iff]
      intro k hk
      rw [List.mem_range'] at hk
      obtain ⟨j, hj, rfl⟩ := hk
      simp; omega
    · simp only [h, decide_false, Bool.false_eq_true, if_false]
      exact filter_one x c (i + 1) (by omega) (by omega)

theorem gates_ref (o : Nat → Bool) (n : Nat) : ∀ (d i : Nat), n - i = d → i ≤ n → (i = 0 ∨ o (i - 1) = false ∨ o i = false ∨ i = n) → gatesI o n i = (List.range' i (n - i)).filter (midI o n) := by
  intro d
  induction d using Nat.strongRecOn with
  | _ d ih =>
    intro i hd hi hb
    by_cases h : i < n
    · cases ho : o i
      · rw [gates_shut h ho, ih (n - (i + 1)) (by omega) (i + 1) rfl (by omega) (.inr (.inl (by simpa using ho)))]
        rw [show n - i = (n - (i + 1)) + 1 by omega, List.range'_succ, List.filter_cons]
        simp [midI, ho]
      · obtain ⟨s1, s2, s3, s4⟩ := stop_spec (o := o) (n := n) (i := i) hi
        have s5 := stop_gt h ho
        generalize stopI o n i = e at *
        have hb' : i = 0 ∨ o (i - 1) = false := by
          rcases hb with hb | hb | hb | hb
          · exact .inl hb
          · exact .inr hb
          · rw [ho] at hb; cases hb
          · omega
        rw [gates_run s5 s2 s3 s4, ih (n - e) (by omega) e rfl s2 (by
          rcases s4 with s4 | s4
          · exact .inr (.inr (.inr s4))
          · exact .inr (.inr (.inl s4)))]
        rw [show n - i = (e - i) + (n - e) by omega, ← List.range'_append_1, List.filter_append, show i + (e - i) = e by omega]
        have hm : ∀ k ∈ List.range' i (e - i), midI o n k = decide (k = i + (e - i - 1) / 2) := by
          intro k hk
          rw [List.mem_range'_1] at hk
          have ha : aheadI o k = k - i := run1_eq (by omega) (fun j hj => s3 _ (by omega) (by omega)) (by
            rcases hb' with hb' | hb'
            · left; omega
            · right; rw [show k - 1 - (k - i) = i - 1 by omega]; exact hb')
          have hbe : behindI o n k = e - 1 - k := run1_eq (by omega) (fun j hj => s3 _ (by omega) (by omega)) (by
            rcases s4 with s4 | s4
            · left; omega
            · right; rw [show k + 1 + (e - 1 - k) = e by omega]; exact s4)
          unfold midI
          rw [s3 k (by omega) (by omega), ha, hbe, Bool.true_and]
          rw [decide_eq_decide]
          omega
        rw [List.filter_congr hm, filter_one _ _ _ (by omega) (by omega)]
        rfl
    · obtain rfl : i = n := by omega
      rw [gates_end]; simp

/-- Runs' middles, and the places each asked by itself, are the same. -/
theorem gates_all (o : Nat → Bool) (n : Nat) : gatesI o n 0 = refI o n n := by
  rw [gates_ref o n n 0 (by omega) (by omega) (.inl rfl), refI, Nat.sub_zero, List.range_eq_range']
end Go.Proofs.Ytkioohhjjdlhiaa
