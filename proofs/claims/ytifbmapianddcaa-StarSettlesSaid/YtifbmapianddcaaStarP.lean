/- The search of layer 10 in plain words: its states, its steps, that it is determined, and that what is settled is settled at its least cost. -/
import Derived.Test.YtifbmapianddcaaFarX
import Derived.Test.YtifbmapianddcaaHeapP
namespace Go.Proofs.Ytifbmapianddcaa

/-- A state of a search: 0 new, 1 open, 2 settled; the costs; whence; how many are settled. -/
structure AS where
  st : Nat → Nat
  g : Nat → Int
  came : Nat → Int
  cnt : Int

def updN (f : Nat → Nat) (j : Nat) (x : Nat) (v : Nat) : Nat := if v = j then x else f v
theorem updN_same (f : Nat → Nat) (j : Nat) (x : Nat) : updN f j x j = x := if_pos rfl
theorem updN_ne (f : Nat → Nat) {j v : Nat} (x : Nat) (h : v ≠ j) : updN f j x v = f v := if_neg h
def updI (f : Nat → Int) (j : Nat) (x : Int) (v : Nat) : Int := if v = j then x else f v
theorem updI_same (f : Nat → Int) (j : Nat) (x : Int) : updI f j x j = x := if_pos rfl
theorem updI_ne (f : Nat → Int) {j v : Nat} (x : Int) (h : v ≠ j) : updI f j x v = f v := if_neg h

/-- A cell is opened, or made cheaper. -/
def AS.put (A : AS) (m : Nat) (x : Int) (c : Int) : AS := { A with st := updN A.st m 1, g := updI A.g m x, came := updI A.came m c }
def AS.takes (A : AS) (m : Nat) (x : Int) : Prop := A.st m = 0 ∨ A.st m = 1 ∧ x < A.g m
instance (A : AS) (m : Nat) (x : Int) : Decidable (A.takes m x) := by unfold AS.takes; exact inferInstance
def rx (G : Net) (c : Nat) (A : AS) (m : Nat) : AS := if A.takes m (A.g c + G.cost m) then A.put m (A.g c + G.cost m) c else A
def rxs (G : Net) (c : Nat) (A : AS) (l : List Nat) : AS := l.foldl (rx G c) A
def AS.settle (A : AS) (v : Nat) : AS := { A with st := updN A.st v 2, cnt := A.cnt + 1 }
def stepA (G : Net) (A : AS) (v : Nat) : AS := rxs G v (A.settle v) (G.adj v)
def kOf (W : Int) (h : Nat → Int) (A : AS) (v : Nat) : HKey := ((A.g v + h v, h v), (vy W v, vx W v))
def IsBest (W : Int) (h : Nat → Int) (A : AS) (v : Nat) : Prop := A.st v = 1 ∧ ∀ u, A.st u = 1 → lessB (kOf W h A u) (kOf W h A v) = false

/-- The cells to one, each of which came from the next. -/
inductive Chain (came : Nat → Int) : Nat → List Nat → Prop where
  | stop {v : Nat} : came v < 0 → Chain came v [v]
  | go {v u : Nat} {l : List Nat} : came v = (u : Int) → Chain came u l → Chain came v (v :: l)

/-- What a search comes to: path, cost, settled, error. -/
inductive ARun (G : Net) (W : Int) (h : Nat → Int) (t : Nat) (b : Int) : AS → List Nat → Int → Int → Int → Prop where
  | none {A : AS} : (∀ v, A.st v ≠ 1) → ARun G W h t b A [] 0 A.cnt 22
  | full {A : AS} (v : Nat) : A.st v = 1 → A.cnt = b → ARun G W h t b A [] 0 A.cnt 23
  | found {A : AS} {l : List Nat} : IsBest W h A t → A.cnt ≠ b → Chain A.came t l → ARun G W h t b A l.reverse (A.g t) (A.cnt + 1) 0
  | next {A : AS} {v : Nat} {p : List Nat} {c n e : Int} : IsBest W h A v → A.cnt ≠ b → v ≠ t → ARun G W h t b (stepA G A v) p c n e → ARun G W h t b A p c n e

def start0 (s : Nat) : AS := { st := updN (fun _ => 0) s 1, g := fun _ => 0, came := updI (fun _ => 0) s (-1), cnt := 0 }

theorem Chain.one {came : Nat → Int} {v : Nat} {l m : List Nat} (h : Chain came v l) : Chain came v m → l = m := by
  induction h generalizing m with
  | stop h0 =>
    intro k
    cases k with
    | stop _ => rfl
    | go h1 _ => omega
  | go h0 _ ih =>
    intro k
    cases k with
    | stop h1 => omega
    | go h1 h2 =>
      have : _ = _ := Int.ofNat.inj (h0.symm.trans h1)
      subst this
      rw [ih h2]

theorem best_one {W : Int} (hW : 1 ≤ W) {h : Nat → Int} {A : AS} {u v : Nat} (hu : IsBest W h A u) (hv : IsBest W h A v) : u = v := by
  have h1 := hu.2 v hv.1
  have h2 := hv.2 u hu.1
  have n1 : ¬ lessB (kOf W h A v) (kOf W h A u) = true := by rw [h1]; simp
  have n2 : ¬ lessB (kOf W h A u) (kOf W h A v) = true := by rw [h2]; simp
  rw [lessB_iff] at n1 n2
  unfold kOf at n1 n2
  simp only at n1 n2
  have hy : vy W u = vy W v := by omega
  have hx : vx W u = vx W v := by omega
  rw [← idx_v hW u, ← idx_v hW v, hx, hy]

theorem ARun.one {G : Net} {W : Int} (hW : 1 ≤ W) {h : Nat → Int} {t : Nat} {b : Int} {A : AS} {p p' : List Nat} {c c' n n' e e' : Int} (r : ARun G W h t b A p c n e) : ARun G W h t b A p' c' n' e' → p = p' ∧ c = c' ∧ n = n' ∧ e = e' := by
  induction r generalizing p' c' n' e' with
  | none h0 =>
    intro k
    cases k with
    | none _ => exact ⟨rfl, rfl, rfl, rfl⟩
    | full v hv _ => exact absurd hv (h0 v)
    | found hb _ _ => exact absurd hb.1 (h0 _)
    | next hb _ _ _ => exact absurd hb.1 (h0 _)
  | full v hv hc =>
    intro k
    cases k with
    | none h0 => exact absurd hv (h0 v)
    | full _ _ _ => exact ⟨rfl, rfl, rfl, rfl⟩
    | found _ hn _ => exact absurd hc hn
    | next _ hn _ _ => exact absurd hc hn
  | found hb hn hc =>
    intro k
    cases k with
    | none h0 => exact absurd hb.1 (h0 _)
    | full _ _ h1 => exact absurd h1 hn
    | found _ _ hc' => rw [hc.one hc']; exact ⟨rfl, rfl, rfl, rfl⟩
    | next hb' _ hne _ => exact absurd (best_one hW hb' hb) hne
  | next hb hn hne _ ih =>
    intro k
    cases k with
    | none h0 => exact absurd hb.1 (h0 _)
    | full _ _ h1 => exact absurd h1 hn
    | found hb' _ _ => exact absurd (best_one hW hb hb') hne
    | next hb' _ _ r' =>
      have := best_one hW hb hb'
      subst this
      exact ih r'
end Go.Proofs.Ytifbmapianddcaa
