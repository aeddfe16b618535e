/- Plain laws on how far places are from one, as the only solution of its equation; and on ways. -/
namespace Go.Proofs.Ytifbmapianddcaa

def infI : Int := 18446744073709551615

/-- A graph: which places are open, what each costs, and which lie beside one. -/
structure Net where
  n : Nat
  op : Nat → Bool
  cost : Nat → Int
  adj : Nat → List Nat
  pos : ∀ v, op v = true → 1 ≤ cost v
  top : ∀ v, op v = true → cost v ≤ 65535
  lt : ∀ v, op v = true → v < n
  sym : ∀ u v, op u = true → op v = true → u ∈ adj v → v ∈ adj u

/-- f says how far all are from one place, none being infI. -/
structure IsFar (G : Net) (s : Nat) (f : Nat → Int) : Prop where
  start : G.op s = true → f s = 0
  shut : ∀ v, G.op v = false → f v = infI
  nn : ∀ v, 0 ≤ f v
  le : ∀ v, f v ≤ infI
  near : ∀ v, G.op v = true → v ≠ s → ∀ u, u ∈ G.adj v → G.op u = true → f u + G.cost v < infI → f v ≤ f u + G.cost v
  from_ : ∀ v, G.op v = true → v ≠ s → f v < infI → ∃ u, u ∈ G.adj v ∧ G.op u = true ∧ f u + G.cost v = f v

theorem IsFar.open_ {G : Net} {s : Nat} {f : Nat → Int} (h : IsFar G s f) {v : Nat} (hv : f v < infI) : G.op v = true := by
  cases ho : G.op v
  · rw [h.shut v ho] at hv; omega
  · rfl

theorem IsFar.le_of {G : Net} {s : Nat} {f g : Nat → Int} (hf : IsFar G s f) (hg : IsFar G s g) : ∀ (k : Nat) (v : Nat), f v = (k : Int) → f v < infI → g v ≤ f v := by
  intro k
  induction k using Nat.strongRecOn with
  | _ k ih =>
    intro v hv hk
    have ho := hf.open_ hk
    by_cases hs : v = s
    · subst hs
      rw [hf.start ho, hg.start ho]; exact Int.le_refl _
    · obtain ⟨u, hu, huo, he⟩ := hf.from_ v ho hs hk
      have hc := G.pos v ho
      have hn := hf.nn u
      have h1 := ih (f u).toNat (by omega) u (by omega) (by omega)
      have h2 := hg.near v ho hs u hu huo (by omega)
      omega

/-- There is one solution only. -/
theorem IsFar.same {G : Net} {s : Nat} {f g : Nat → Int} (hf : IsFar G s f) (hg : IsFar G s g) (v : Nat) : f v = g v := by
  have a := hf.le v
  have b := hg.le v
  have c := hf.nn v
  have d := hg.nn v
  by_cases h : f v < infI
  · have h1 := hf.le_of hg (f v).toNat v (by omega) h
    have h2 := hg.le_of hf (g v).toNat v (by omega) (by omega)
    omega
  · by_cases h' : g v < infI
    · have := hg.le_of hf (g v).toNat v (by omega) h'
      omega
    · omega

/-- A way from s to v that costs c. -/
inductive Way (G : Net) (s : Nat) : Nat → Int → Prop where
  | start : G.op s = true → Way G s s 0
  | step {u v : Nat} {c : Int} : Way G s u c → u ∈ G.adj v → G.op v = true → Way G s v (c + G.cost v)

theorem Way.ends {G : Net} {s v : Nat} {c : Int} (h : Way G s v c) : G.op s = true ∧ G.op v = true ∧ 0 ≤ c := by
  induction h with
  | start h => exact ⟨h, h, Int.le_refl _⟩
  | step _ _ ho ih => exact ⟨ih.1, ho, by have := G.pos _ ho; omega⟩

theorem Way.cast {G : Net} {s v : Nat} {c d : Int} (h : Way G s v c) (e : c = d) : Way G s v d := e ▸ h

theorem Way.concat {G : Net} {a b d : Nat} {x y : Int} (h : Way G a b x) (k : Way G b d y) : Way G a d (x + y) := by
  induction k with
  | start _ => exact h.cast (by omega)
  | step _ hu ho ih => exact (Way.step ih hu ho).cast (by omega)

theorem Way.back {G : Net} {s t : Nat} {c : Int} (h : Way G s t c) : Way G t s (c + G.cost s - G.cost t) := by
  induction h with
  | start h => exact (Way.start h).cast (by omega)
  | step w hu ho ih =>
    have e := w.ends
    exact ((Way.step (Way.start ho) (G.sym _ _ e.2.1 ho hu) e.2.1).concat ih).cast (by omega)

theorem IsFar.le_way {G : Net} {s : Nat} {f : Nat → Int} (hf : IsFar G s f) {v : Nat} {c : Int} (h : Way G s v c) : c < infI → f v ≤ c := by
  induction h with
  | start h => intro _; rw [hf.start h]; exact Int.le_refl _
  | step w hu ho ih =>
    rename_i u v c
    intro hc
    have e := w.ends
    have p := G.pos _ ho
    have i := ih (by omega)
    by_cases hs : v = s
    · subst hs; rw [hf.start ho]; omega
    · have := hf.near _ ho hs _ hu e.2.1 (by omega)
      omega

theorem IsFar.way {G : Net} {s : Nat} {f : Nat → Int} (hf : IsFar G s f) : ∀ (k : Nat) (v : Nat), f v = (k : Int) → f v < infI → Way G s v (f v) := by
  intro k
  induction k using Nat.strongRecOn with
  | _ k ih =>
    intro v hv hk
    have ho := hf.open_ hk
    by_cases hs : v = s
    · subst hs
      rw [hf.start ho]; exact .start ho
    · obtain ⟨u, hu, huo, he⟩ := hf.from_ v ho hs hk
      have hc := G.pos v ho
      have hn := hf.nn u
      exact (Way.step (ih (f u).toNat (by omega) u (by omega) (by omega)) hu ho).cast he

theorem IsFar.way_of {G : Net} {s : Nat} {f : Nat → Int} (hf : IsFar G s f) {v : Nat} (h : f v < infI) : Way G s v (f v) :=
  hf.way (f v).toNat v (by have := hf.nn v; omega) h

/-- A net within another one. -/
structure Net.Sub (G K : Net) : Prop where
  op : ∀ v, G.op v = true → K.op v = true
  cost : ∀ v, G.op v = true → K.cost v ≤ G.cost v
  adj : ∀ u v, G.op u = true → G.op v = true → u ∈ G.adj v → u ∈ K.adj v

theorem Way.sub {G K : Net} (S : G.Sub K) {s v : Nat} {c : Int} (h : Way G s v c) : ∃ d, d ≤ c ∧ Way K s v d := by
  induction h with
  | start h => exact ⟨0, Int.le_refl _, .start (S.op _ h)⟩
  | step w hu ho ih =>
    obtain ⟨d, h1, h2⟩ := ih
    exact ⟨_, by have := S.cost _ ho; omega, Way.step h2 (S.adj _ _ w.ends.2.1 ho hu) (S.op _ ho)⟩

theorem IsFar.sub_le {G K : Net} (S : G.Sub K) {s : Nat} {f g : Nat → Int} (hf : IsFar G s f) (hg : IsFar K s g) (v : Nat) : g v ≤ f v := by
  by_cases h : f v < infI
  · obtain ⟨d, h1, h2⟩ := (hf.way_of h).sub S
    have := hg.le_way h2 (by omega)
    omega
  · have := hg.le v
    omega

/-- All that is finite is bounded. -/
def FarLow (G : Net) (f : Nat → Int) : Prop := ∀ v, f v < infI → f v ≤ 65535 * (G.n : Int)

theorem IsFar.backs {G : Net} {s t : Nat} {f g : Nat → Int} (hn : G.n ≤ 1000000) (hf : IsFar G s f) (hg : IsFar G t g) (lf : FarLow G f) (h : f t < infI) : g s + G.cost t ≤ f t + G.cost s := by
  have w := hf.way_of h
  have e := w.ends
  have := G.top _ e.1
  have := G.pos _ e.2.1
  have := lf t h
  have := hg.le_way w.back (by show _ < (18446744073709551615 : Int); omega)
  omega

theorem IsFar.third {G : Net} {s a t : Nat} {f g : Nat → Int} (hn : G.n ≤ 1000000) (hf : IsFar G s f) (hg : IsFar G a g) (lf : FarLow G f) (lg : FarLow G g) (h : f a < infI) (k : g t < infI) : f t ≤ f a + g t := by
  have := lf a h
  have := lg t k
  exact hf.le_way ((hf.way_of h).concat (hg.way_of k)) (by show _ < (18446744073709551615 : Int); omega)
end Go.Proofs.Ytifbmapianddcaa
