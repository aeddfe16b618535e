/- Plain laws on how GateRuns walks along a border: where it is in a run, and which gates are still to come. -/
import Derived.Test.YtkonojjillcfiaaGateD
namespace Go.Proofs.Ytkonojjillcfiaa

theorem gates_ge {o : Nat → Bool} {n : Nat} : ∀ (c i : Nat), n - i = c → ∀ d, d ∈ gatesI o n i → i ≤ d := by
  intro c
  induction c using Nat.strongRecOn with
  | _ c ih =>
    intro i hc d hd
    by_cases h : i < n
    · cases ho : o i
      · rw [gates_shut h ho] at hd
        have := ih (n - (i + 1)) (by omega) (i + 1) rfl d hd
        omega
      · obtain ⟨s1, s2, s3, s4⟩ := stop_spec (o := o) (n := n) (i := i) (by omega)
        have s5 := stop_gt h ho
        rw [gates_run s5 s2 s3 s4] at hd
        rcases List.mem_cons.1 hd with rfl | hd
        · omega
        · have := ih (n - stopI o n i) (by omega) (stopI o n i) rfl d hd
          omega
    · unfold gatesI at hd
      rw [dif_neg h] at hd
      cases hd

/-- At i, with m gates seen: shut, in a run whose gate is to come, or in one whose gate has come. -/
def Along (o : Nat → Bool) (B L : List (Cell × Cell)) (i m : Nat) (s : Int) : Prop :=
  (s = 0 ∧ L.drop m = pick B (gatesI o B.length i)) ∨
  (s = 1 ∧ ∃ e d, i ≤ d ∧ d < e ∧ e ≤ B.length ∧ (∀ j, i ≤ j → j < e → o j = true) ∧ (e = B.length ∨ o e = false) ∧ L.drop m = pick B (d :: gatesI o B.length e)) ∨
  (s = 2 ∧ ∃ e, i ≤ e ∧ e ≤ B.length ∧ (∀ j, i ≤ j → j < e → o j = true) ∧ (e = B.length ∨ o e = false) ∧ L.drop m = pick B (gatesI o B.length e))

theorem along_start (o : Nat → Bool) (B : List (Cell × Cell)) : Along o B (pick B (gatesI o B.length 0)) 0 0 0 := .inl ⟨rfl, rfl⟩

theorem pick_cons {B : List (Cell × Cell)} {d : Nat} {r : List Nat} (h : d < B.length) : pick B (d :: r) = B[d] :: pick B r := by
  simp [pick, h]

theorem along_end {o : Nat → Bool} {B L : List (Cell × Cell)} {m : Nat} {s : Int} (h : Along o B L B.length m s) (hm : m ≤ L.length) : m = L.length ∧ (s == 1) = false := by
  rcases h with ⟨rfl, h⟩ | ⟨rfl, e, d, h1, h2, h3, _⟩ | ⟨rfl, e, h1, h2, _, _, h⟩
  · rw [gates_end] at h
    have := List.drop_eq_nil_iff.1 (show L.drop m = [] from h)
    exact ⟨by omega, rfl⟩
  · omega
  · obtain rfl : e = B.length := by omega
    rw [gates_end] at h
    have := List.drop_eq_nil_iff.1 (show L.drop m = [] from h)
    exact ⟨by omega, rfl⟩

theorem along_shut {o : Nat → Bool} {B L : List (Cell × Cell)} {i m : Nat} {s : Int} (h : Along o B L i m s) (hi : i < B.length) (ho : o i = false) : (s == 1) = false ∧ Along o B L (i + 1) m 0 := by
  rcases h with ⟨rfl, h⟩ | ⟨rfl, e, d, h1, h2, h3, h4, _⟩ | ⟨rfl, e, h1, h2, h3, h4, h⟩
  · exact ⟨rfl, .inl ⟨rfl, by rw [h, gates_shut hi ho]⟩⟩
  · have := h4 i (Nat.le_refl _) (by omega)
    rw [ho] at this; cases this
  · have : ¬ i < e := fun hl => by have := h3 i (Nat.le_refl _) hl; rw [ho] at this; cases this
    obtain rfl : i = e := by omega
    exact ⟨rfl, .inl ⟨rfl, by rw [h, gates_shut hi ho]⟩⟩

/-- What since is, once the pair at i is seen to be open. -/
def since1 (s : Int) : Int := if s = 0 then 1 else s
theorem along_open {o : Nat → Bool} {B L : List (Cell × Cell)} {i m : Nat} {s : Int} (h : Along o B L i m s) (hi : i < B.length) (ho : o i = true) :
    (since1 s = 1 ∧ ∃ e d, i ≤ d ∧ d < e ∧ e ≤ B.length ∧ (∀ j, i ≤ j → j < e → o j = true) ∧ (e = B.length ∨ o e = false) ∧ L.drop m = pick B (d :: gatesI o B.length e)) ∨
    (since1 s = 2 ∧ ∃ e, i < e ∧ e ≤ B.length ∧ (∀ j, i ≤ j → j < e → o j = true) ∧ (e = B.length ∨ o e = false) ∧ L.drop m = pick B (gatesI o B.length e)) := by
  rcases h with ⟨rfl, h⟩ | ⟨rfl, h⟩ | ⟨rfl, e, h1, h2, h3, h4, h⟩
  · left
    obtain ⟨s1, s2, s3, s4⟩ := stop_spec (o := o) (n := B.length) (i := i) (by omega)
    have s5 := stop_gt hi ho
    refine ⟨rfl, stopI o B.length i, i + (stopI o B.length i - i - 1) / 2, by omega, by omega, s2, s3, s4, ?_⟩
    rw [h, gates_run s5 s2 s3 s4]
  · exact .inl ⟨rfl, h⟩
  · right
    have : i ≠ e := by
      rintro rfl
      rcases h4 with h4 | h4
      · omega
      · rw [ho] at h4; cases h4
    exact ⟨rfl, e, by omega, h2, h3, h4, h⟩

/-- The pair at i is the next gate. -/
theorem along_hit {o : Nat → Bool} {B L : List (Cell × Cell)} {i m : Nat} {s : Int} (h : Along o B L i m s) (hi : i < B.length) (ho : o i = true)
    (hne : ∀ (d k : Nat) (q : Cell × Cell), B[d]? = some q → B[k]? = some q → d = k) (hh : L[m]? = some B[i]) : (since1 s == 2) = false ∧ Along o B L (i + 1) (m + 1) 2 := by
  have hb : B[i]? = some B[i] := List.getElem?_eq_getElem hi
  have hd : (L.drop m)[0]? = some B[i] := by rw [List.getElem?_drop]; simpa using hh
  have ht : L.drop (m + 1) = (L.drop m).drop 1 := by rw [List.drop_drop]
  rcases along_open h hi ho with ⟨h0, e, d, h1, h2, h3, h4, h5, h6⟩ | ⟨h0, e, h1, h2, h3, h4, h5⟩
  · rw [h6, pick_cons (by omega)] at hd
    have := hne d i B[i] (by rw [List.getElem?_eq_getElem (by omega)]; simpa using hd) hb
    subst this
    refine ⟨by rw [h0]; rfl, .inr (.inr ⟨rfl, e, by omega, h3, fun j j1 j2 => h4 j (by omega) j2, h5, ?_⟩)⟩
    rw [ht, h6, pick_cons (by omega)]; rfl
  · exfalso
    rw [h5] at hd
    have hm : B[i] ∈ pick B (gatesI o B.length e) := List.mem_of_getElem? hd
    unfold pick at hm
    obtain ⟨d, d1, d2⟩ := List.mem_filterMap.1 hm
    have := gates_ge _ e rfl d d1
    have := hne d i B[i] d2 hb
    omega

/-- It is not. -/
theorem along_miss {o : Nat → Bool} {B L : List (Cell × Cell)} {i m : Nat} {s : Int} (h : Along o B L i m s) (hi : i < B.length) (ho : o i = true)
    (hh : L[m]? ≠ some B[i]) : Along o B L (i + 1) m (since1 s) := by
  rcases along_open h hi ho with ⟨h0, e, d, h1, h2, h3, h4, h5, h6⟩ | ⟨h0, e, h1, h2, h3, h4, h5⟩
  · have hd : d ≠ i := by
      rintro rfl
      apply hh
      have : (L.drop m)[0]? = some B[d] := by rw [h6, pick_cons hi]; rfl
      rw [List.getElem?_drop] at this
      simpa using this
    exact .inr (.inl ⟨h0, e, d, by omega, h2, h3, fun j j1 j2 => h4 j (by omega) j2, h5, h6⟩)
  · exact .inr (.inr ⟨h0, e, by omega, h2, fun j j1 j2 => h3 j (by omega) j2, h4, h5⟩)

theorem border_inj {W H s lo hi : Int} (hr : rightB W H s = true) (h : Pair W H s lo hi) (d k : Nat) (q : Cell × Cell) (hd : (borderL W H s lo hi)[d]? = some q) (hk : (borderL W H s lo hi)[k]? = some q) : d = k := by
  obtain ⟨_, _, _, _, a⟩ := border_at hr h hd
  obtain ⟨_, _, _, _, b⟩ := border_at hr h hk
  rcases a with ⟨_, _, a, _⟩ | ⟨_, a, _⟩ <;> rcases b with ⟨_, _, b, _⟩ | ⟨_, b, _⟩ <;> rw [a] at b <;> simp only [Prod.mk.injEq] at b <;> omega
end Go.Proofs.Ytkonojjillcfiaa
