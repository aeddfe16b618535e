/- Plain laws on how far cells are, for several statements. -/
import Derived.Test.YtifbmapianddcaaFarX
set_option linter.all false
set_option linter.unusedVariables false
set_option linter.unusedSimpArgs false
namespace Go.Proofs.Ytifbmapianddcaa

theorem count_lt2 {α : Type} {p q : α → Bool} : ∀ {l : List α}, (∀ a ∈ l, p a = true → q a = true) → (∃ a ∈ l, q a = true ∧ p a = false) → l.countP p < l.countP q
  | [], _, ⟨a, h, _⟩ => by cases h
  | b :: l, hpq, ⟨a, ha, hq, hp⟩ => by
    rw [List.countP_cons, List.countP_cons]
    have hmono : l.countP p ≤ l.countP q := List.countP_mono_left fun x hx => hpq x (List.mem_cons_of_mem _ hx)
    by_cases hab : a = b
    · subst hab
      rw [hq, hp]; simp; omega
    · have hal : a ∈ l := by
        rcases List.mem_cons.1 ha with h | h
        · exact absurd h hab
        · exact h
      have := count_lt2 (fun x hx => hpq x (List.mem_cons_of_mem _ hx)) ⟨a, hal, hq, hp⟩
      have hb := hpq b List.mem_cons_self
      cases h : p b
      · split <;> split <;> simp_all <;> omega
      · rw [hb h]; simp; omega


theorem IsFar.low {G : Net} {s : Nat} {f : Nat → Int} (hf : IsFar G s f) : ∀ (k : Nat) (v : Nat), f v = (k : Int) → f v < infI → f v ≤ 65535 * (((List.range G.n).countP (fun u => decide (f u < f v)) : Nat) : Int) := by
  intro k
  induction k using Nat.strongRecOn with
  | _ k ih =>
    intro v hv hk
    have ho := hf.open_ hk
    by_cases hs : v = s
    · subst hs
      rw [hf.start ho]
      omega
    · obtain ⟨u, hu, huo, he⟩ := hf.from_ v ho hs hk
      have hc := G.pos v ho
      have ht := G.top v ho
      have hn := hf.nn u
      have h1 := ih (f u).toNat (by omega) u (by omega) (by omega)
      have h2 := count_lt2 (l := List.range G.n) (p := fun x => decide (f x < f u)) (q := fun x => decide (f x < f v)) (fun x _ hx => by simp at hx ⊢; omega) ⟨u, List.mem_range.2 (G.lt u huo), by simp; omega, by simp⟩
      omega
theorem far_low {G : Net} {s : Nat} {f : Nat → Int} (hf : IsFar G s f) : FarLow G f := fun v hv => by
  have h1 := hf.low (f v).toNat v (by have := hf.nn v; omega) hv
  have h2 := List.countP_le_length (p := fun u => decide (f u < f v)) (l := List.range G.n)
  rw [List.length_range] at h2
  omega

/-- sat.Add's sum. -/
def satS (a b : Int) : Int := if a + b ≤ 18446744073709551615 then a + b else 18446744073709551615

theorem backs_sat {G : Net} {s t : Nat} {f g : Nat → Int} (hn : G.n ≤ 1000000) (hf : IsFar G s f) (hg : IsFar G t g) (lf : FarLow G f) (lg : FarLow G g) (c0 : 0 ≤ G.cost s) (c1 : 0 ≤ G.cost t) : satS (f t) (G.cost s) = satS (g s) (G.cost t) := by
  have e1 : infI = 18446744073709551615 := rfl
  have a1 := hf.le t
  have a2 := hg.le s
  have key : f t < infI ∨ g s < infI → f t + G.cost s = g s + G.cost t := by
    intro h
    rcases h with h | h
    · have h1 := hf.backs hn hg lf h
      have h2 := lf t h
      have w1 := (hf.way_of h).ends
      have w2 := G.top s w1.1
      have w3 := G.pos t w1.2.1
      have h3 := hg.backs hn hf lg (by omega)
      omega
    · have h1 := hg.backs hn hf lg h
      have h2 := lg s h
      have w1 := (hg.way_of h).ends
      have w2 := G.top t w1.1
      have w3 := G.pos s w1.2.1
      have h3 := hf.backs hn hg lf (by omega)
      omega
  by_cases h : f t < infI ∨ g s < infI
  · have := key h
    unfold satS
    rw [this]
  · have h1 : f t = infI := by omega
    have h2 : g s = infI := by omega
    unfold satS
    rw [h1, h2, e1]
    split <;> split <;> omega

theorem map_sub {W H : Int} {l : List Int} {bx byy bw bh : Int} (L : LandP W H l bx byy bw bh) (L2 : LandP W H l 0 0 W H) : (mapNet L).Sub (mapNet L2) := by
  have hop : ∀ x y, openB l W bx byy bw bh x y = true → openB l W 0 0 W H x y = true := fun x y h => by
    have h1 := open_has h
    have h2 := L.in_ h1.1
    unfold openB
    rw [hasB_true.2 (by omega), decide_eq_true h1.2]
    rfl
  refine ⟨fun v hv => ?_, fun v _ => Int.le_refl _, fun u v _ _ hu => ?_⟩
  · have hv' : opV (openB l W bx byy bw bh) W l.length v = true := hv
    show opV _ _ _ v = true
    unfold opV at hv' ⊢
    simp only [Bool.and_eq_true] at hv' ⊢
    exact ⟨hv'.1, hop _ _ hv'.2⟩
  · obtain ⟨p, hp, he⟩ := List.mem_map.1 hu
    obtain ⟨k, hk, ho, e⟩ := mem_nbC.1 hp
    exact List.mem_map.2 ⟨p, mem_nbC.2 ⟨k, hk, hop _ _ ho, e⟩, he⟩

theorem three_sat {G : Net} {s a t : Nat} {f g : Nat → Int} (hn : G.n ≤ 1000000) (hf : IsFar G s f) (hg : IsFar G a g) (lf : FarLow G f) (lg : FarLow G g) (h : f a < infI) : f t ≤ satS (f a) (g t) := by
  have e1 : infI = 18446744073709551615 := rfl
  have h1 := hf.le t
  have h2 := hg.le t
  have h3 := hf.nn a
  by_cases k : g t < infI
  · have := hf.third hn hg lf lg h k
    unfold satS
    split <;> omega
  · unfold satS
    split <;> omega
theorem op_iff {W H : Int} {l : List Int} (L : LandP W H l 0 0 W H) (v : Nat) : (mapNet L).op v = true ↔ v < l.length ∧ 0 < l.getD v 0 := by
  show opV (openB l W 0 0 W H) W l.length v = true ↔ _
  unfold opV openB
  simp only [Bool.and_eq_true, decide_eq_true_eq]
  rw [L.cost_v v]
  constructor
  · intro h; exact ⟨h.1, h.2.2⟩
  · intro h
    refine ⟨h.1, hasB_true.2 ?_, h.2⟩
    have := L.v_in h.1
    omega
end Go.Proofs.Ytifbmapianddcaa
