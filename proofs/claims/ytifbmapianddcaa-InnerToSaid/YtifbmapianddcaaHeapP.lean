/- Plain laws of a binary heap of numbered things with keys, kept in a list. -/
namespace Go.Proofs.Ytifbmapianddcaa

abbrev HKey := (Int × Int) × (Int × Int)
abbrev Thing := Int × HKey

def lessB (a b : HKey) : Bool := if a.1.1 = b.1.1 then (if a.1.2 = b.1.2 then (if a.2.1 = b.2.1 then decide (a.2.2 < b.2.2) else decide (a.2.1 < b.2.1)) else decide (a.1.2 < b.1.2)) else decide (a.1.1 < b.1.1)
def aheadB (a b : Thing) : Bool := if a.2 = b.2 then decide (a.1 < b.1) else lessB a.2 b.2

theorem lessB_iff {a b : HKey} : lessB a b = true ↔ a.1.1 < b.1.1 ∨ a.1.1 = b.1.1 ∧ (a.1.2 < b.1.2 ∨ a.1.2 = b.1.2 ∧ (a.2.1 < b.2.1 ∨ a.2.1 = b.2.1 ∧ a.2.2 < b.2.2)) := by
  unfold lessB
  repeat' split
  all_goals simp only [decide_eq_true_eq]
  all_goals omega
theorem key_eq {a b : HKey} : a = b ↔ a.1.1 = b.1.1 ∧ a.1.2 = b.1.2 ∧ a.2.1 = b.2.1 ∧ a.2.2 = b.2.2 := by
  obtain ⟨⟨a1, a2⟩, a3, a4⟩ := a
  obtain ⟨⟨b1, b2⟩, b3, b4⟩ := b
  simp [and_assoc]
theorem ahead_iff {a b : Thing} : aheadB a b = true ↔ a.2.1.1 < b.2.1.1 ∨ a.2.1.1 = b.2.1.1 ∧ (a.2.1.2 < b.2.1.2 ∨ a.2.1.2 = b.2.1.2 ∧ (a.2.2.1 < b.2.2.1 ∨ a.2.2.1 = b.2.2.1 ∧ (a.2.2.2 < b.2.2.2 ∨ a.2.2.2 = b.2.2.2 ∧ a.1 < b.1))) := by
  unfold aheadB
  split
  · rename_i h
    rw [key_eq] at h
    rw [decide_eq_true_eq]
    omega
  · rename_i h
    rw [key_eq] at h
    rw [lessB_iff]
    omega

/-- a does not come behind b. -/
def Le (a b : Thing) : Prop := aheadB b a = false
theorem Le.refl (a : Thing) : Le a a := by
  unfold Le
  cases h : aheadB a a
  · rfl
  · rw [ahead_iff] at h; omega
theorem le_iff {a b : Thing} : Le a b ↔ ¬ (b.2.1.1 < a.2.1.1 ∨ b.2.1.1 = a.2.1.1 ∧ (b.2.1.2 < a.2.1.2 ∨ b.2.1.2 = a.2.1.2 ∧ (b.2.2.1 < a.2.2.1 ∨ b.2.2.1 = a.2.2.1 ∧ (b.2.2.2 < a.2.2.2 ∨ b.2.2.2 = a.2.2.2 ∧ b.1 < a.1)))) := by
  rw [← ahead_iff]; unfold Le; simp
theorem Le.trans {a b c : Thing} (h : Le a b) (k : Le b c) : Le a c := by
  rw [le_iff] at *
  omega
theorem le_of_ahead {a b : Thing} (h : aheadB a b = true) : Le a b := by
  rw [ahead_iff] at h
  rw [le_iff]
  omega
theorem le_of_less {a b : Thing} (h : lessB a.2 b.2 = true) : Le a b := by
  rw [lessB_iff] at h
  rw [le_iff]
  omega

/-! ### lists -/
def T0 : Thing := (0, ((0, 0), (0, 0)))
def tat (l : List Thing) (i : Nat) : Thing := l.getD i T0
theorem tat_lt {l : List Thing} {i : Nat} (h : i < l.length) : tat l i = l[i] := by simp [tat, h]
def swp (l : List Thing) (i j : Nat) : List Thing := (l.set i (tat l j)).set j (tat l i)
theorem swp_len (l : List Thing) (i j : Nat) : (swp l i j).length = l.length := by simp [swp]
theorem tat_swp {l : List Thing} {i j : Nat} (hi : i < l.length) (hj : j < l.length) (k : Nat) : tat (swp l i j) k = if k = j then tat l i else if k = i then tat l j else tat l k := by
  unfold swp tat
  simp only [List.getD_eq_getElem?_getD, List.getElem?_set, List.length_set]
  by_cases h1 : j = k
  · subst h1; simp [hj]
  · have h1' : ¬ k = j := fun e => h1 e.symm
    by_cases h2 : i = k
    · subst h2; simp [h1, h1', hi]
    · have h2' : ¬ k = i := fun e => h2 e.symm
      simp [h1, h2, h1', h2']
theorem swp_perm {l : List Thing} {i j : Nat} (hi : i < l.length) (hj : j < l.length) : (swp l i j).Perm l := by
  have h := Array.swap_perm (xs := l.toArray) (i := i) (j := j) (by simpa using hi) (by simpa using hj)
  have e : (l.toArray.swap i j (by simpa using hi) (by simpa using hj)).toList = swp l i j := by
    rw [Array.toList_swap]
    simp [swp, tat_lt hi, tat_lt hj]
  rw [← e]
  simpa using h.toList

def par (j : Nat) : Nat := (j - 1) / 2
theorem par_lt {j : Nat} (h : 0 < j) : par j < j := by unfold par; omega

def HeapOk (l : List Thing) : Prop := ∀ j, 0 < j → j < l.length → Le (tat l (par j)) (tat l j)
/-- A heap but for the thing at i, which may be too small. -/
def RiseOk (l : List Thing) (i : Nat) : Prop := (∀ j, 0 < j → j < l.length → j ≠ i → Le (tat l (par j)) (tat l j)) ∧ ∀ j, 0 < j → j < l.length → par j = i → 0 < i → Le (tat l (par i)) (tat l j)
/-- A heap but for the thing at i, which may be too great. -/
def SinkOk (l : List Thing) (i : Nat) : Prop := (∀ j, 0 < j → j < l.length → par j ≠ i → Le (tat l (par j)) (tat l j)) ∧ ∀ j, 0 < j → j < l.length → par j = i → 0 < i → Le (tat l (par i)) (tat l j)

theorem rise_end {l : List Thing} {i : Nat} (h : RiseOk l i) (he : i = 0 ∨ aheadB (tat l i) (tat l (par i)) = false) : HeapOk l := by
  intro j h0 hj
  by_cases e : j = i
  · subst e
    rcases he with he | he
    · omega
    · exact he
  · exact h.1 j h0 hj e

theorem rise_step {l : List Thing} {i : Nat} (h : RiseOk l i) (h0 : 0 < i) (hi : i < l.length) (ha : aheadB (tat l i) (tat l (par i)) = true) : RiseOk (swp l i (par i)) (par i) := by
  have hp := par_lt h0
  have A := tat_swp (l := l) hi (j := par i) (by omega)
  have hle := le_of_ahead ha
  refine ⟨fun j j0 hj hne => ?_, fun j j0 hj hpj hpp => ?_⟩
  · rw [swp_len] at hj
    rw [A, A, if_neg hne]
    by_cases e : j = i
    · subst e
      rw [if_pos rfl, if_pos rfl]; exact hle
    · rw [if_neg e]
      by_cases e2 : par j = par i
      · rw [if_pos e2]
        have := h.1 j j0 hj e
        rw [e2] at this
        exact hle.trans this
      · rw [if_neg e2]
        by_cases e3 : par j = i
        · rw [if_pos e3]; exact h.2 j j0 hj e3 h0
        · rw [if_neg e3]; exact h.1 j j0 hj e
  · rw [swp_len] at hj
    have hq := par_lt hpp
    rw [A, A, if_neg (by omega), if_neg (by omega)]
    have up := h.1 (par i) hpp (by omega) (by omega)
    by_cases e : j = i
    · subst e
      rw [if_neg (by omega), if_pos rfl]; exact up
    · have : j ≠ par i := by have := par_lt j0; omega
      rw [if_neg this, if_neg e]
      have k := h.1 j j0 hj e
      rw [hpj] at k
      exact up.trans k

theorem sink_end {l : List Thing} {i : Nat} (h : SinkOk l i) (hm : ∀ j, 0 < j → j < l.length → par j = i → Le (tat l i) (tat l j)) : HeapOk l := by
  intro j j0 hj
  by_cases e : par j = i
  · rw [e]; exact hm j j0 hj e
  · exact h.1 j j0 hj e

theorem sink_step {l : List Thing} {i c : Nat} (h : SinkOk l i) (hi : i < l.length) (hc : c < l.length) (c0 : 0 < c) (hp : par c = i) (hci : Le (tat l c) (tat l i)) (hm : ∀ j, 0 < j → j < l.length → par j = i → Le (tat l c) (tat l j)) : SinkOk (swp l i c) c := by
  have hlt := par_lt c0
  have A := tat_swp (l := l) hi hc
  refine ⟨fun j j0 hj hne => ?_, fun j j0 hj hpj _ => ?_⟩
  · rw [swp_len] at hj
    rw [A, A, if_neg hne]
    by_cases e : j = c
    · subst e
      rw [if_pos rfl, if_pos hp]; exact hci
    · rw [if_neg e]
      by_cases e2 : par j = i
      · have : j ≠ i := by have := par_lt j0; omega
        rw [if_pos e2, if_neg this]; exact hm j j0 hj e2
      · rw [if_neg e2]
        by_cases e3 : j = i
        · subst e3
          rw [if_pos rfl]; exact h.2 c c0 hc hp j0
        · rw [if_neg e3]; exact h.1 j j0 hj e2
  · rw [swp_len] at hj
    have hj' := par_lt j0
    rw [A, A, if_neg (by omega), if_pos hp, if_neg (by omega), if_neg (by omega)]
    have := h.1 j j0 hj (by omega)
    rwa [hpj] at this

theorem heap_min {l : List Thing} (h : HeapOk l) (j : Nat) (hj : j < l.length) : Le (tat l 0) (tat l j) := by
  induction j using Nat.strongRecOn with
  | _ j ih =>
    by_cases h0 : j = 0
    · subst h0; exact Le.refl _
    · have hp := par_lt (j := j) (by omega)
      exact (ih (par j) hp (by omega)).trans (h j (by omega) hj)

theorem tat_take {l : List Thing} {n k : Nat} (hk : k < n) : tat (l.take n) k = tat l k := by
  unfold tat
  simp [List.getD_eq_getElem?_getD, hk]
theorem pop_sink {l : List Thing} (h : HeapOk l) (n : Nat) (hn : l.length = n + 1) : SinkOk ((swp l 0 n).take n) 0 := by
  have A := tat_swp (l := l) (i := 0) (j := n) (by omega) (by omega)
  have hl : ((swp l 0 n).take n).length = n := by rw [List.length_take, swp_len]; omega
  refine ⟨fun j j0 hj hne => ?_, fun j j0 hj hpj h0 => by omega⟩
  rw [hl] at hj
  have hp := par_lt j0
  rw [tat_take (by omega), tat_take hj, A, A, if_neg (by omega), if_neg hne, if_neg (by omega), if_neg (by omega)]
  exact h j j0 (by omega)

theorem tat_snoc {l : List Thing} {t : Thing} {k : Nat} (hk : k < l.length) : tat (l ++ [t]) k = tat l k := by
  unfold tat
  simp [List.getD_eq_getElem?_getD, List.getElem?_append_left hk]
theorem push_rise {l : List Thing} (h : HeapOk l) (t : Thing) : RiseOk (l ++ [t]) l.length := by
  refine ⟨fun j j0 hj hne => ?_, fun j j0 hj hpj h0 => ?_⟩
  · simp at hj
    have hp := par_lt j0
    rw [tat_snoc (by omega), tat_snoc (by omega)]
    exact h j j0 (by omega)
  · simp at hj
    have hp := par_lt j0
    omega

theorem tat_set {l : List Thing} {i : Nat} {t : Thing} (hi : i < l.length) (k : Nat) : tat (l.set i t) k = if k = i then t else tat l k := by
  unfold tat
  simp only [List.getD_eq_getElem?_getD, List.getElem?_set]
  by_cases h : i = k
  · subst h; simp [hi]
  · have h' : ¬ k = i := fun e => h e.symm
    simp [h, h']
theorem lower_rise {l : List Thing} (h : HeapOk l) {i : Nat} (hi : i < l.length) {t : Thing} (ht : Le t (tat l i)) : RiseOk (l.set i t) i := by
  have A := tat_set (l := l) (t := t) hi
  refine ⟨fun j j0 hj hne => ?_, fun j j0 hj hpj h0 => ?_⟩
  · simp at hj
    rw [A, A, if_neg hne]
    have := h j j0 hj
    by_cases e : par j = i
    · rw [if_pos e]; rw [e] at this; exact ht.trans this
    · rw [if_neg e]; exact this
  · simp at hj
    have hp := par_lt j0
    have hq := par_lt h0
    rw [A, A, if_neg (by omega), if_neg (by omega)]
    have k1 := h j j0 hj
    rw [hpj] at k1
    exact (h i h0 hi).trans k1

/-! ### where each thing stands -/
def posO (l : List Int) (x : Int) : Option Int := (l.findIdx? (· == x)).map fun i : Nat => (i : Int)
def ids (l : List Thing) : List Int := l.map (·.1)
theorem ids_len (l : List Thing) : (ids l).length = l.length := by simp [ids]
theorem ids_get {l : List Thing} {i : Nat} (h : i < l.length) : (ids l)[i]? = some (tat l i).1 := by simp [ids, h, tat_lt h]

theorem posO_some {l : List Int} {x : Int} : (posO l x).isSome = decide (x ∈ l) := by
  unfold posO
  rw [Option.isSome_map, List.findIdx?_isSome, Bool.eq_iff_iff]
  simp [List.any_eq_true]
theorem posO_none {l : List Int} {x : Int} (h : x ∉ l) : posO l x = none := by
  have := posO_some (l := l) (x := x)
  cases hh : posO l x
  · rfl
  · rw [hh] at this; simp [h] at this
theorem posO_at {l : List Int} (hn : l.Nodup) {i : Nat} {x : Int} (h : l[i]? = some x) : posO l x = some (i : Int) := by
  unfold posO
  obtain ⟨hi, hx⟩ := List.getElem?_eq_some_iff.1 h
  have : l.findIdx? (· == x) = some i := by
    rw [List.findIdx?_eq_some_iff_getElem]
    refine ⟨hi, by simp [hx], fun j hj => ?_⟩
    have hne : l[j]'(by omega) ≠ l[i] := fun e => by
      have := (List.getElem_inj (h₀ := (by omega : j < l.length)) (h₁ := hi) hn).1 e
      omega
    simpa [hx] using hne
  rw [this]; rfl
theorem posO_inv {l : List Int} {x c : Int} (h : posO l x = some c) : ∃ i : Nat, c = i ∧ l[i]? = some x := by
  unfold posO at h
  obtain ⟨i, hi, rfl⟩ := Option.map_eq_some_iff.1 h
  obtain ⟨hlt, hx, _⟩ := List.findIdx?_eq_some_iff_getElem.1 hi
  exact ⟨i, rfl, by rw [List.getElem?_eq_getElem hlt]; simpa using hx⟩

/-- Two lists of the same numbers, none twice: where they stand is told by one list's places. -/
theorem posO_ext {l : List Int} (hn : l.Nodup) {f : Int → Option Int} (h1 : ∀ (i : Nat) (x : Int), l[i]? = some x → f x = some (i : Int)) (h2 : ∀ x, x ∉ l → f x = none) (x : Int) : f x = posO l x := by
  by_cases hx : x ∈ l
  · obtain ⟨i, hi, rfl⟩ := List.getElem_of_mem hx
    have e : l[i]? = some l[i] := List.getElem?_eq_getElem hi
    rw [h1 i _ e, posO_at hn e]
  · rw [h2 x hx, posO_none hx]

theorem ids_perm {l m : List Thing} (h : l.Perm m) : (ids l).Perm (ids m) := h.map _
end Go.Proofs.Ytifbmapianddcaa
