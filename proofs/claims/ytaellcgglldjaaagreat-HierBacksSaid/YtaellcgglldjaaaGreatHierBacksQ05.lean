/- Part of a proof: GateA. -/
import Derived.Test.YtaellcgglldjaaaGreatHierBacksQ04
import Derived.Test.YtaellcgglldjaaaGreatHierBacksQ01
import Derived.ScopeJumps
import Derived.WalkMore
import Derived.Test.YtaellcgglldjaaaGreatHierBacksQ03
import Derived.Laws.EntriesVeiled
set_option linter.all false
set_option linter.unusedVariables false
set_option linter.unusedSimpArgs false
namespace Go.Proofs.YtaellcgglldjaaaGreat
open Go.RowKit
def gateE (W H pW pH : Int) (n : Nat) : Int := if checkE W H n = 0 then (if pW = W ∧ pH = H then 0 else 1) else checkE W H n
theorem gtCheck_any (W H : Int) (a : Option Addr) (n c : Nat) (pW pH s : Int) (w : World) :
  Calls Tryz.prog 128 #[.agg #[.int .i64 W, .int .i64 H, .slice a n c], .agg #[.int .i64 pW, .int .i64 pH, .int .i64 s]] w fun e w' => e = .returned (.int .i64 (gateE W H pW pH n)) ∧ Ext w w' := by
 have hq := fun w => eq_size pW pH W H w
 by_cases h0 : checkE W H n = 0
 ·have h0' : (checkE W H n != 0) = false := by simpa using h0
  by_cases he : pW = W ∧ pH = H
  ·have e0 : gateE W H pW pH n = 0 := by simp [gateE, h0, he]
   rw [e0]
   have q : (pW == W && pH == H) = true := by simpa using he
   clear e0 h0 he
   go_enter Tryz.func128, Tryz.ntmps128
   go_wp2_with (go_at_call 34; refine (gCheck_any _ _ _ _ _ _).mono ?_; rintro e w1 ⟨rfl, hb1⟩; obtain ⟨hc1, hf1⟩ := hb1.cells; have hz1 := hb1.size; (repeat (first | rw [World.size_alloc] at hz1 | rw [World.size_drew] at hz1)); have z1_0 : w.heap.size < w1.heap.size := (by omega); have z1_1 : w.heap.size + 1 < w1.heap.size := (by omega))
   go_ret
   exact ⟨rfl, z_x⟩
  ·have e0 : gateE W H pW pH n = 1 := by simp [gateE, h0, he]
   rw [e0]
   have q : (pW == W && pH == H) = false := by simpa using he
   clear e0 h0 he
   go_enter Tryz.func128, Tryz.ntmps128
   go_wp2_with (go_at_call 34; refine (gCheck_any _ _ _ _ _ _).mono ?_; rintro e w1 ⟨rfl, hb1⟩; obtain ⟨hc1, hf1⟩ := hb1.cells; have hz1 := hb1.size; (repeat (first | rw [World.size_alloc] at hz1 | rw [World.size_drew] at hz1)); have z1_0 : w.heap.size < w1.heap.size := (by omega); have z1_1 : w.heap.size + 1 < w1.heap.size := (by omega))
   go_ret
   exact ⟨rfl, z_x⟩
 ·have h0' : (checkE W H n != 0) = true := by simpa using h0
  have e0 : gateE W H pW pH n = checkE W H n := by simp [gateE, h0]
  rw [e0]
  clear e0 h0 hq
  go_enter Tryz.func128, Tryz.ntmps128
  go_wp2_with (go_at_call 34; refine (gCheck_any _ _ _ _ _ _).mono ?_; rintro e w1 ⟨rfl, hb1⟩; obtain ⟨hc1, hf1⟩ := hb1.cells; have hz1 := hb1.size; (repeat (first | rw [World.size_alloc] at hz1 | rw [World.size_drew] at hz1)); have z1_0 : w.heap.size < w1.heap.size := (by omega); have z1_1 : w.heap.size + 1 < w1.heap.size := (by omega))
  go_ret
  exact ⟨rfl, z_x⟩
theorem gtB1_any (W H : Int) (a : Option Addr) (l : List Int) (c q : Nat) (x y : Int) (w : World) (hm : mayB W H = true) (hl : (l.length : Int) = W * H) (hr : Row16 w a l) (hq : q < w.heap.size)
  (c0 : w.cell? ⟨q, 0, none⟩ = some (.int .i64 W)) (c1 : w.cell? ⟨q, 2, none⟩ = some (.slice a l.length c)) (h1 : 0 ≤ x) (h2 : x < W) (h3 : 0 ≤ y) (h4 : y < H) :
  Calls Tryz.prog 130 #[.agg #[.int .i64 x, .int .i64 y], .pointer (some ⟨q, 0, none⟩)] w fun e w' => e = .returned (.int .u16 (costI l W (x, y))) ∧ Ext w w' := by
 obtain ⟨m1, m2, m3, m4⟩ := mayB_true.1 hm
 obtain ⟨b, off, rfl, hb, hc⟩ := cost_cell hr hl h1 h2 h3 h4
 have ib := idx_bd h1 h2 h3 h4
 have ib2 : y * W + x < (l.length : Int) := by omega
 have wb := mul_bd (a := W) (b := H) (A := 256) (B := 256) (by omega) m2 (by omega) m4
 have k1 : IntKind.i64.wrap (y * W) = y * W := IntWalk.i64_in _ (by omega)
 have k2 : IntKind.i64.wrap (y * W + x) = y * W + x := IntWalk.i64_in _ (by omega)
 generalize costI l W (x, y) = v at *
 obtain ⟨n, hn⟩ : ∃ n, l.length = n := ⟨_, rfl⟩
 rw [hn] at ib2 c1
 clear hr hl hn
 go_enter Tryz.func130, Tryz.ntmps130
 go_wp2
 go_ret
 exact ⟨rfl, z_x⟩
def openP (l : List Int) (W : Int) (p : Cell × Cell) : Bool := decide (0 < costI l W p.1) && decide (0 < costI l W p.2)
theorem gtB2_any (W H : Int) (a : Option Addr) (l : List Int) (c q r : Nat) (p : Cell × Cell) (w : World) (hm : mayB W H = true) (hl : (l.length : Int) = W * H) (hr : Row16 w a l) (hq : q < w.heap.size) (hrr : r < w.heap.size)
  (c0 : w.cell? ⟨q, 0, none⟩ = some (.int .i64 W)) (c1 : w.cell? ⟨q, 2, none⟩ = some (.slice a l.length c)) (c2 : w.cell? ⟨r, 0, none⟩ = some (.func (.func 130) #[] #[.pointer (some ⟨q, 0, none⟩)]))
  (h1 : 0 ≤ p.1.1 ∧ p.1.1 < W ∧ 0 ≤ p.1.2 ∧ p.1.2 < H) (h2 : 0 ≤ p.2.1 ∧ p.2.1 < W ∧ 0 ≤ p.2.2 ∧ p.2.2 < H) :
  Calls Tryz.prog 132 #[.agg #[.int .i64 p.1.1, .int .i64 p.1.2, .int .i64 p.2.1, .int .i64 p.2.2], .pointer (some ⟨r, 0, none⟩)] w fun e w' => e = .returned (.bool (openP l W p)) ∧ Ext w w' := by
 obtain ⟨⟨ax, ay⟩, bx, bY⟩ := p
 simp only at h1 h2 ⊢
 have k1 : ∀ w', Ext w w' → Calls Tryz.prog 130 #[.agg #[.int .i64 ax, .int .i64 ay], .pointer (some ⟨q, 0, none⟩)] w' fun e w2 => e = .returned (.int .u16 (costI l W (ax, ay))) ∧ Ext w' w2 := fun w' hx =>
  gtB1_any W H a l c q ax ay w' hm hl (hr.ext hx) (Nat.lt_of_lt_of_le hq hx.size) ((hx.cell (p := ⟨q, 0, none⟩) hq).trans c0) ((hx.cell (p := ⟨q, 2, none⟩) hq).trans c1) h1.1 h1.2.1 h1.2.2.1 h1.2.2.2
 have k2 : ∀ w', Ext w w' → Calls Tryz.prog 130 #[.agg #[.int .i64 bx, .int .i64 bY], .pointer (some ⟨q, 0, none⟩)] w' fun e w2 => e = .returned (.int .u16 (costI l W (bx, bY))) ∧ Ext w' w2 := fun w' hx =>
  gtB1_any W H a l c q bx bY w' hm hl (hr.ext hx) (Nat.lt_of_lt_of_le hq hx.size) ((hx.cell (p := ⟨q, 0, none⟩) hq).trans c0) ((hx.cell (p := ⟨q, 2, none⟩) hq).trans c1) h2.1 h2.2.1 h2.2.2.1 h2.2.2.2
 have K1 := hide k1
 have K2 := hide k2
 unfold openP
 simp only
 generalize costI l W (ax, ay) = u at *
 generalize costI l W (bx, bY) = v at *
 clear k1 k2 hm hl hr c0 c1 h1 h2
 by_cases hu0 : 0 < u
 ·go_enter Tryz.func132, Tryz.ntmps132
  go_wp2_with fail
  refine (K1.out _ z_x).mono ?_
  rintro e w1 ⟨rfl, hb1⟩
  obtain ⟨hc1, hf1⟩ := hb1.cells; have hz1 := hb1.size; (repeat (first | rw [World.size_alloc] at hz1 | rw [World.size_drew] at hz1)); have z1_0 : r < w1.heap.size := (by omega); have z1_1 : w.heap.size < w1.heap.size := (by omega)
  go_wp2_with fail
  refine (K2.out _ z_x).mono ?_
  rintro e w2 ⟨rfl, hb2⟩
  go_wp2
  go_ret
  exact ⟨by simp [hu0], z_x⟩
 ·go_enter Tryz.func132, Tryz.ntmps132
  go_wp2_with fail
  refine (K1.out _ z_x).mono ?_
  rintro e w1 ⟨rfl, hb1⟩
  obtain ⟨hc1, hf1⟩ := hb1.cells; have hz1 := hb1.size; (repeat (first | rw [World.size_alloc] at hz1 | rw [World.size_drew] at hz1)); have z1_0 : r < w1.heap.size := (by omega); have z1_1 : w.heap.size < w1.heap.size := (by omega)
  go_wp2
  go_ret
  have hu1 : ¬ 0 < u := by omega
  exact ⟨by simp [hu1], z_x⟩
def run1 (f : Nat → Bool) : Nat → Nat
 | 0 => 0
 | n + 1 => if f 0 = true then 1 + run1 (fun j => f (j + 1)) n else 0
theorem run1_spec (n : Nat) : ∀ f : Nat → Bool, run1 f n ≤ n ∧ (∀ j, j < run1 f n → f j = true) ∧ (run1 f n < n → f (run1 f n) = false) := by
 induction n with
 | zero => intro f; exact ⟨Nat.le_refl _, fun j hj => by simp [run1] at hj, fun h => by simp [run1] at h⟩
 | succ n ih =>
  intro f
  have h := ih (fun j => f (j + 1))
  unfold run1
  by_cases h0 : f 0 = true
  ·rw [if_pos h0]
   refine ⟨by omega, fun j hj => ?_, fun hl => ?_⟩
   ·cases j with
    | zero => exact h0
    | succ j => exact h.2.1 j (by omega)
   ·have := h.2.2 (by omega)
    rw [Nat.add_comm]; exact this
  ·rw [if_neg h0]
   exact ⟨by omega, fun j hj => by omega, fun _ => by simpa using h0⟩
theorem run1_eq {f : Nat → Bool} {n a : Nat} (ha : a ≤ n) (h1 : ∀ j, j < a → f j = true) (h2 : a = n ∨ f a = false) : run1 f n = a := by
 obtain ⟨s1, s2, s3⟩ := run1_spec n f
 apply Nat.le_antisymm
 ·apply Nat.le_of_not_lt
  intro h
  have := s2 a h
  rcases h2 with h2 | h2
  ·omega
  ·rw [h2] at this; cases this
 ·apply Nat.le_of_not_lt
  intro h
  have k1 := s3 (by omega)
  rw [h1 _ h] at k1
  cases k1
def stopI (o : Nat → Bool) (n i : Nat) : Nat := i + run1 (fun j => o (i + j)) (n - i)
theorem stop_eq {o : Nat → Bool} {n i e : Nat} (h0 : i ≤ e) (hn : e ≤ n) (h1 : ∀ j, i ≤ j → j < e → o j = true) (h2 : e = n ∨ o e = false) : stopI o n i = e := by
 unfold stopI
 rw [run1_eq (a := e - i) (by omega) (fun j hj => h1 _ (by omega) (by omega)) (by
  rcases h2 with h2 | h2
  ·left; omega
  ·right; rw [show i + (e - i) = e by omega]; exact h2)]
 omega
theorem stop_spec {o : Nat → Bool} {n i : Nat} (hi : i ≤ n) : i ≤ stopI o n i ∧ stopI o n i ≤ n ∧ (∀ j, i ≤ j → j < stopI o n i → o j = true) ∧ (stopI o n i = n ∨ o (stopI o n i) = false) := by
 obtain ⟨s1, s2, s3⟩ := run1_spec (n - i) (fun j => o (i + j))
 unfold stopI
 refine ⟨by omega, by omega, fun j h1 h2 => ?_, ?_⟩
 ·have := s2 (j - i) (by omega)
  rwa [show i + (j - i) = j by omega] at this
 ·by_cases h : run1 (fun j => o (i + j)) (n - i) < n - i
  ·exact .inr (s3 h)
  ·left; omega
theorem stop_gt {o : Nat → Bool} {n i : Nat} (hi : i < n) (h : o i = true) : i < stopI o n i := by
 obtain ⟨s1, _, _, s4⟩ := stop_spec (o := o) (n := n) (i := i) (by omega)
 apply Nat.lt_of_le_of_ne s1
 intro e
 rw [← e] at s4
 rcases s4 with s4 | s4
 ·omega
 ·rw [h] at s4; cases s4
def gatesI (o : Nat → Bool) (n i : Nat) : List Nat :=
 if h : i < n then
  if ho : o i = true then (i + (stopI o n i - i - 1) / 2) :: gatesI o n (stopI o n i)
  else gatesI o n (i + 1)
 else []
termination_by n - i
decreasing_by
 ·have := stop_gt h ho; omega
 ·omega
theorem gates_end {o : Nat → Bool} {n : Nat} : gatesI o n n = [] := by unfold gatesI; simp
theorem gates_shut {o : Nat → Bool} {n i : Nat} (h : i < n) (ho : o i = false) : gatesI o n i = gatesI o n (i + 1) := by
 rw [gatesI, dif_pos h, dif_neg (by simp [ho])]
theorem gates_run {o : Nat → Bool} {n i e : Nat} (h : i < e) (he : e ≤ n) (h1 : ∀ j, i ≤ j → j < e → o j = true) (h2 : e = n ∨ o e = false) : gatesI o n i = (i + (e - i - 1) / 2) :: gatesI o n e := by
 rw [gatesI, dif_pos (by omega), dif_pos (h1 i (Nat.le_refl _) h), stop_eq (by omega) he h1 h2]
def aheadI (o : Nat → Bool) (i : Nat) : Nat := run1 (fun j => o (i - 1 - j)) i
def behindI (o : Nat → Bool) (n i : Nat) : Nat := run1 (fun j => o (i + 1 + j)) (n - i - 1)
def midI (o : Nat → Bool) (n i : Nat) : Bool := o i && decide (aheadI o i = (aheadI o i + behindI o n i) / 2)
def refI (o : Nat → Bool) (n m : Nat) : List Nat := (List.range m).filter (midI o n)
theorem filter_one (x : Nat) : ∀ (c i : Nat), i ≤ x → x < i + c → (List.range' i c).filter (fun k => decide (k = x)) = [x]
 | 0, i, h1, h2 => by omega
 | c + 1, i, h1, h2 => by
  rw [List.range'_succ, List.filter_cons]
  by_cases h : i = x
  ·subst h
   simp only [decide_true, if_true]
   congr 1
   rw [List.filter_eq_nil_iff]
   intro k hk
   rw [List.mem_range'] at hk
   obtain ⟨j, hj, rfl⟩ := hk
   simp; omega
  ·simp only [h, decide_false, Bool.false_eq_true, if_false]
   exact filter_one x c (i + 1) (by omega) (by omega)
theorem gates_ref (o : Nat → Bool) (n : Nat) : ∀ (d i : Nat), n - i = d → i ≤ n → (i = 0 ∨ o (i - 1) = false ∨ o i = false ∨ i = n) → gatesI o n i = (List.range' i (n - i)).filter (midI o n) := by
 intro d
 induction d using Nat.strongRecOn with
 | _ d ih =>
  intro i hd hi hb
  by_cases h : i < n
  ·cases ho : o i
   ·rw [gates_shut h ho, ih (n - (i + 1)) (by omega) (i + 1) rfl (by omega) (.inr (.inl (by simpa using ho)))]
    rw [show n - i = (n - (i + 1)) + 1 by omega, List.range'_succ, List.filter_cons]
    simp [midI, ho]
   ·obtain ⟨s1, s2, s3, s4⟩ := stop_spec (o := o) (n := n) (i := i) hi
    have s5 := stop_gt h ho
    generalize stopI o n i = e at *
    have hb' : i = 0 ∨ o (i - 1) = false := by
     rcases hb with hb | hb | hb | hb
     ·exact .inl hb
     ·exact .inr hb
     ·rw [ho] at hb; cases hb
     ·omega
    rw [gates_run s5 s2 s3 s4, ih (n - e) (by omega) e rfl s2 (by
     rcases s4 with s4 | s4
     ·exact .inr (.inr (.inr s4))
     ·exact .inr (.inr (.inl s4)))]
    rw [show n - i = (e - i) + (n - e) by omega, ← List.range'_append_1, List.filter_append, show i + (e - i) = e by omega]
    have hm : ∀ k ∈ List.range' i (e - i), midI o n k = decide (k = i + (e - i - 1) / 2) := by
     intro k hk
     rw [List.mem_range'_1] at hk
     have ha : aheadI o k = k - i := run1_eq (by omega) (fun j hj => s3 _ (by omega) (by omega)) (by
      rcases hb' with hb' | hb'
      ·left; omega
      ·right; rw [show k - 1 - (k - i) = i - 1 by omega]; exact hb')
     have hbe : behindI o n k = e - 1 - k := run1_eq (by omega) (fun j hj => s3 _ (by omega) (by omega)) (by
      rcases s4 with s4 | s4
      ·left; omega
      ·right; rw [show k + 1 + (e - 1 - k) = e by omega]; exact s4)
     unfold midI
     rw [s3 k (by omega) (by omega), ha, hbe, Bool.true_and]
     rw [decide_eq_decide]
     omega
    rw [List.filter_congr hm, filter_one _ _ _ (by omega) (by omega)]
    rfl
  ·obtain rfl : i = n := by omega
   rw [gates_end]; simp
theorem gates_all (o : Nat → Bool) (n : Nat) : gatesI o n 0 = refI o n n := by
 rw [gates_ref o n n 0 (by omega) (by omega) (.inl rfl), refI, Nat.sub_zero, List.range_eq_range']
def jumps (J : Nat → Act → World → Prop) (Q : Exit → Act → World → Prop) : Exit → Act → World → Prop
 | .goto l, a, w => J l a w
 | e, a, w => Q e a w
theorem wp_scope_many {P : Program} {a : Act} {w : World} {Q : Exit → Act → World → Prop} {c : Code} (J : Nat → Act → World → Prop) (μ : Nat → Act → World → Nat)
  (first : c.wp P (jumps J Q) a w)
  (pass : ∀ l a w, J l a w → ∃ rest, findLabel c l = some rest ∧ rest.wp P (jumps (fun l' a' w' => J l' a' w' ∧ μ l' a' w' < μ l a w) Q) a w) : (Code.scope c).wp P Q a w := by
 intro b k cs
 have key : ∀ n l a w rest, μ l a w = n → J l a w → findLabel c l = some rest → ∃ e a' w', Q e a' w' ∧ Arrives P (lone (b.at a (.code rest :: .inScope c :: k)) cs w) b k cs e a' w' := by
  intro n
  induction n using Nat.strongRecOn with
  | _ n ih =>
   intro l a w rest hn hJ hf
   obtain ⟨rest', hf', hp⟩ := pass l a w hJ
   obtain rfl : rest = rest' := Option.some.inj (hf.symm.trans hf')
   obtain ⟨e, a₁, w₁, hq, harr⟩ := hp b (.inScope c :: k) cs
   cases e with
   | normal => exact ⟨.normal, a₁, w₁, hq, Steps.trans harr (.one step_inScope)⟩
   | exit id => exact ⟨.exit id, a₁, w₁, hq, fun k' hk => harr k' (by simp [exitTo, hk])⟩
   | goto l' =>
    obtain ⟨hJ', hlt⟩ := hq
    obtain ⟨rest2, hf2, _⟩ := pass l' a₁ w₁ hJ'
    have hg : gotoIn l' (.inScope c :: k) = some (.code rest2 :: .inScope c :: k) := by simp [gotoIn, hf2]
    obtain ⟨e₂, a₂, w₂, hq₂, harr₂⟩ := ih _ (by omega) l' a₁ w₁ rest2 rfl hJ' hf2
    exact ⟨e₂, a₂, w₂, hq₂, .of_steps (harr _ hg) harr₂⟩
   | ret => exact ⟨_, a₁, w₁, hq, harr⟩
   | panic ch => exact ⟨_, a₁, w₁, hq, harr⟩
   | outgrown => exact ⟨_, a₁, w₁, hq, harr⟩
 obtain ⟨e, a₁, w₁, hq, harr⟩ := first b (.inScope c :: k) cs
 cases e with
 | normal => exact ⟨.normal, a₁, w₁, hq, .head step_scope (Steps.trans harr (.one step_inScope))⟩
 | exit id => exact ⟨.exit id, a₁, w₁, hq, fun k' hk => .head step_scope (harr k' (by simp [exitTo, hk]))⟩
 | goto l' =>
  obtain ⟨rest2, hf2, _⟩ := pass l' a₁ w₁ hq
  have hg : gotoIn l' (.inScope c :: k) = some (.code rest2 :: .inScope c :: k) := by simp [gotoIn, hf2]
  obtain ⟨e₂, a₂, w₂, hq₂, harr₂⟩ := key _ l' a₁ w₁ rest2 rfl hq hf2
  exact ⟨e₂, a₂, w₂, hq₂, .of_steps (.head step_scope (harr _ hg)) harr₂⟩
 | ret => exact ⟨_, a₁, w₁, hq, .of_steps (.one step_scope) harr⟩
 | panic ch => exact ⟨_, a₁, w₁, hq, .of_steps (.one step_scope) harr⟩
 | outgrown => exact ⟨_, a₁, w₁, hq, .of_steps (.one step_scope) harr⟩
def noWay : Exit → Act → World → Prop := fun _ _ _ => False
theorem wp_scope_from2 {P : Program} {a : Act} {w : World} {Q : Exit → Act → World → Prop} {p1 p2 rest : Code} {l0 : Nat} (J : Nat → Act → World → Prop) (μ : Nat → Act → World → Nat)
  (hf : findLabel (p1.seq (p2.seq ((Code.label l0).seq rest))) l0 = some (Code.skip.seq rest))
  (first : p1.wp P (Exit.then (fun a w => p2.wp P (Exit.then (J l0) noWay) a w) noWay) a w)
  (pass : ∀ l a w, J l a w → ∃ r, findLabel (p1.seq (p2.seq ((Code.label l0).seq rest))) l = some (Code.skip.seq r) ∧ r.wp P (jumps (fun l' a' w' => J l' a' w' ∧ μ l' a' w' < μ l a w) Q) a w) :
  (Code.scope (p1.seq (p2.seq ((Code.label l0).seq rest)))).wp P Q a w := by
 refine wp_scope_many J μ ?_ fun l a w h => ?_
 ·have up : ∀ {R : Act → World → Prop} {S : Act → World → Prop} {x : Code} {a : Act} {w : World}, x.wp P (Exit.then R noWay) a w → (∀ a w, R a w → S a w) → x.wp P (Exit.then S (jumps J Q)) a w := by
   intro R S x a w h hs
   refine Go.wp_mono h ?_
   intro e a w q
   cases e <;> first | exact hs _ _ q | exact q.elim
  refine wp_seq (up first fun a w h1 => wp_seq (up h1 fun a w h3 => wp_seq (wp_label ?_)))
  obtain ⟨r, hr, hw⟩ := pass l0 a w h3
  have e : r = rest := by
   have := hr.symm.trans hf
   injection this with this
   injection this
  subst e
  refine Go.wp_mono hw ?_
  intro e a w q
  cases e <;> first | exact q.1 | exact q
 ·obtain ⟨r, hr, hw⟩ := pass l a w h
  exact ⟨_, hr, wp_seq (wp_skip hw)⟩
theorem T_gates : ElemT Tryz.prog 76 160 (.agg #[.int .i64 0, .int .i64 0, .int .i64 0, .int .i64 0]) 4 32 := ⟨Tryz.underlying76, by kernel_rfl, rfl, by decide⟩
def AtLabel (V F o fr : Value) (i : Nat) (a : Act) : Prop := ∃ (u8 u9 u10 u11 u12 u13 u14 u15 u16 u17 u18 u19 u20 u21 u22 u23 u24 u25 u26 u27 u28 u29 u30 u31 u32 u33 u34 u35 u36 u37 u38 u39 u40 u41 u42 u43 u44 u45 u46 u47 u48 u49 u50 u51 u52 u53 u54 u55 : Value), a = { tmps := #[V, F, undef, undef, .slice none 0 0, o, .int .i64 (i : Int), fr, u8, u9, u10, u11, u12, u13, u14, u15, u16, u17, u18, u19, u20, u21, u22, u23, u24, u25, u26, u27, u28, u29, u30, u31, u32, u33, u34, u35, u36, u37, u38, u39, u40, u41, u42, u43, u44, u45, u46, u47, u48, u49, u50, u51, u52, u53, u54, u55], defers := [] }
def pick (B : List (Cell × Cell)) (l : List Nat) : List (Cell × Cell) := l.filterMap fun k => B[k]?
theorem pick_snoc (B : List (Cell × Cell)) (l : List Nat) (k : Nat) (p : Cell × Cell) (h : B[k]? = some p) : pick B (l ++ [k]) = pick B l ++ [p] := by simp [pick, h]
def ShutI (op : Nat → Bool) (B : List (Cell × Cell)) (V F : Value) (base : Nat) (w0 : World) (a : Act) (w : World) : Prop :=
 ∃ (i : Nat) (o fr : Value) (D : List Nat), AtLabel V F o fr i a ∧ i ≤ B.length ∧ D ++ gatesI op B.length i = gatesI op B.length 0 ∧ (pick B D).length ≤ i ∧ Own pairE w base 160 o (pick B D) ∧ Below base w0 w
def RunI (op : Nat → Bool) (B : List (Cell × Cell)) (V F : Value) (base : Nat) (w0 : World) (a : Act) (w : World) : Prop :=
 ∃ (i fr : Nat) (o : Value) (D : List Nat), AtLabel V F o (.int .i64 (fr : Int)) i a ∧ fr ≤ i ∧ i < B.length ∧ (∀ j, fr ≤ j → j ≤ i → op j = true) ∧ D ++ gatesI op B.length fr = gatesI op B.length 0 ∧ (pick B D).length ≤ fr ∧ Own pairE w base 160 o (pick B D) ∧ Below base w0 w
def RunsJ (op : Nat → Bool) (B : List (Cell × Cell)) (V F : Value) (base : Nat) (w0 : World) (l : Nat) (a : Act) (w : World) : Prop :=
 (l = 0 ∧ ShutI op B V F base w0 a w) ∨ (l = 1 ∧ RunI op B V F base w0 a w)
theorem below_app {w0 wr x w9 : World} {q : Nat} (h : Below q w0 wr) (e : Ext wr x) (hq : q ≤ wr.heap.size) (k : Below q x w9) : Below q w0 w9 := (h.trans (Below.mono e hq)).trans k
def RetGates (w : World) (L : List (Cell × Cell)) (e : Ending) (w' : World) : Prop := ∃ v, e = .returned v ∧ Ext w w' ∧ Own pairE w' w.heap.size 160 v L
set_option maxRecDepth 100000 in
set_option maxHeartbeats 4000000 in
theorem gtRuns_any (g c : Nat) (B : List (Cell × Cell)) (r : Value) (op : Nat → Bool) (w : World) (hB : B.length ≤ 1000) (hb : g < w.heap.size) (hP : PairsAt w g 0 B)
  (hop : ∀ w', Ext w w' → ∀ k p, B[k]? = some p → Calls Tryz.prog 132 #[.agg #[.int .i64 p.1.1, .int .i64 p.1.2, .int .i64 p.2.1, .int .i64 p.2.2], r] w' fun e w2 => e = .returned (.bool (op k)) ∧ Ext w' w2) :
  Calls Tryz.prog 131 #[.slice (some ⟨g, 0, none⟩) B.length c, .func (.func 132) #[] #[r]] w (RetGates w (pick B (gatesI op B.length 0))) := by
 have HP := hide hP
 have HOP := hide hop
 clear hP hop
 have hdiv : ∀ x : Int, 0 ≤ x → x.tdiv 2 = x / 2 := fun x hx => Int.tdiv_eq_ediv_of_nonneg hx
 have HDIV := hide hdiv
 clear hdiv
 go_enter Tryz.func131, Tryz.ntmps131
 go_wp2
 refine wp_scope_from2 (RunsJ op B (.slice (some ⟨g, 0, none⟩) B.length c) (.func (.func 132) #[] #[r]) w.heap.size w) (fun _ a _ => B.length - (intOf (a.tmps.getD 6 undef)).toNat) ?_ ?_ ?_
 ·rfl
 ·go_wp2
  exact .inl ⟨rfl, 0, _, _, [], ⟨_, _, _, _, _, _, _, _, _, _, _, _, _, _, _, _, _, _, _, _, _, _, _, _, _, _, _, _, _, _, _, _, _, _, _, _, _, _, _, _, _, _, _, _, _, _, _, _, rfl⟩, Nat.zero_le _, rfl, Nat.le_refl _, Own.nil _ _ _ _, Below.refl _ _⟩
 ·rintro l a wr (⟨rfl, i, o, fr, D, ⟨u8, u9, u10, u11, u12, u13, u14, u15, u16, u17, u18, u19, u20, u21, u22, u23, u24, u25, u26, u27, u28, u29, u30, u31, u32, u33, u34, u35, u36, u37, u38, u39, u40, u41, u42, u43, u44, u45, u46, u47, u48, u49, u50, u51, u52, u53, u54, u55, rfl⟩, hi, hD, hlen, hown, hbel⟩ | ⟨rfl, i, fr, o, D, ⟨u8, u9, u10, u11, u12, u13, u14, u15, u16, u17, u18, u19, u20, u21, u22, u23, u24, u25, u26, u27, u28, u29, u30, u31, u32, u33, u34, u35, u36, u37, u38, u39, u40, u41, u42, u43, u44, u45, u46, u47, u48, u49, u50, u51, u52, u53, u54, u55, rfl⟩, hfi, hi, hF, hD, hlen, hown, hbel⟩)
  ·refine ⟨_, rfl, ?_⟩
   dsimp only
   have HO := hide hown
   have HD := hide hD
   have hxr : Ext w wr := hbel
   have hbel0 : Below w.heap.size w wr := hbel
   have hz := hxr.size
   have zr : g < wr.heap.size := by omega
   clear hown hD hbel
   by_cases hlt : i < B.length
   ·have hne : ((i : Int) == (B.length : Int)) = false := by rw [beq_eq_false_iff_ne]; omega
    obtain ⟨x, hx⟩ : ∃ x, B[i]? = some x := ⟨_, List.getElem?_eq_getElem hlt⟩
    have ex : B[i] = x := by rw [List.getElem?_eq_getElem hlt] at hx; exact Option.some.inj hx
    obtain ⟨x1, x2, x3, x4⟩ := (HP.out.ext hb hxr) (i) hlt
    rw [ex] at x1 x2 x3 x4
    simp only [Nat.zero_add] at x1 x2 x3 x4
    have Hx := hide hx
    clear hx ex
    cases ho : op i
    ·go_wp2_with (go_at_call 132; refine (HOP.out _ hxr i x Hx.out).mono ?_; rintro x9 w3 ⟨rfl, hb3⟩; rw [ho]; obtain ⟨hc3, hf3⟩ := hb3.cells; have hz3 := hb3.size; (repeat (first | rw [World.size_alloc] at hz3 | rw [World.size_drew] at hz3)); have z3_0 : g < w3.heap.size := (by omega))
     go_step3
     refine And.intro (Or.inl ⟨rfl, i + 1, _, _, D, ⟨_, _, _, _, _, _, _, _, _, _, _, _, _, _, _, _, _, _, _, _, _, _, _, _, _, _, _, _, _, _, _, _, _, _, _, _, _, _, _, _, _, _, _, _, _, _, _, _, rfl⟩, by omega, ?_, by omega, HO.out.ext z_x, ?_⟩) ?_
     ·rw [← gates_shut hlt ho]; exact HD.out
     ·exact Ext.trans hxr z_x
     ·simp [intOf]; omega
    ·have HF := hide (show ∀ j, i ≤ j → j ≤ i → op j = true from fun j j1 j2 => by have e : j = i := (by omega); rw [e]; exact ho)
     have HO1 := hide ho
     clear ho
     go_wp2_with (go_at_call 132; refine (HOP.out _ hxr i x Hx.out).mono ?_; rintro x9 w3 ⟨rfl, hb3⟩; rw [HO1.out]; obtain ⟨hc3, hf3⟩ := hb3.cells; have hz3 := hb3.size; (repeat (first | rw [World.size_alloc] at hz3 | rw [World.size_drew] at hz3)); have z3_0 : g < w3.heap.size := (by omega))
     go_step3
     have hx3 : Ext wr w3 := z_x
     have HO3 := hide (HO.out.ext hx3)
     have hbel3 : Below w.heap.size w w3 := Ext.trans hxr hx3
     have hz3 := hx3.size
     have zr3 : g < w3.heap.size := by omega
     clear x1 x2 x3 x4 hx3 hc3 hf3 hz3 z3_0 hb3 HO
     obtain ⟨wq, hwq⟩ : ∃ wq, wq = w3 := ⟨_, rfl⟩
     rw [← hwq] at HO3 hbel3 zr3 ⊢
     have hzq : w.heap.size ≤ wq.heap.size := hbel3.size
     clear hwq hbel0 zr hz
     by_cases h2 : i + 1 < B.length
     ·have h2i : (i : Int) + 1 < (B.length : Int) := by omega
      obtain ⟨y, hy⟩ : ∃ y, B[i + 1]? = some y := ⟨_, List.getElem?_eq_getElem h2⟩
      have ey : B[i + 1] = y := by rw [List.getElem?_eq_getElem h2] at hy; exact Option.some.inj hy
      obtain ⟨y1, y2, y3, y4⟩ := (HP.out.ext hb (hbel3 : Ext w wq)) (i + 1) h2
      rw [ey] at y1 y2 y3 y4
      simp only [Nat.zero_add] at y1 y2 y3 y4
      have Hy := hide hy
      clear hy ey
      cases ho2 : op (i + 1)
      ·have HG := hide (gates_run (o := op) (n := B.length) (i := i) (e := (i + 1)) (by omega) (by omega) (fun j j1 j2 => HF.out j j1 (by omega)) (.inr ho2))
       obtain ⟨m, hm⟩ : ∃ m : Nat, m = i + ((i + 1) - i - 1) / 2 := ⟨_, rfl⟩
       rw [← hm] at HG
       have hml : m < B.length := by omega
       obtain ⟨z, hz⟩ : ∃ z, B[m]? = some z := ⟨_, List.getElem?_eq_getElem hml⟩
       have ez : B[m] = z := by rw [List.getElem?_eq_getElem hml] at hz; exact Option.some.inj hz
       obtain ⟨z1, z2, z3, z4⟩ := (HP.out.ext hb (hbel3 : Ext w wq)) (m) hml
       rw [ez] at z1 z2 z3 z4
       simp only [Nat.zero_add] at z1 z2 z3 z4
       have Hz := hide hz
       clear hz ez
       have k2 : ((i : Int) + 1 - (i : Int) - 1).tdiv 2 = (m : Int) - (i : Int) := by rw [HDIV.out _ (by omega)]; omega
       have k2' : ((i : Int) - (i : Int)).tdiv 2 = (m : Int) - (i : Int) := by rw [HDIV.out _ (by omega)]; omega
       have k3 : IntKind.i64.wrap ((m : Int) - (i : Int)) = (m : Int) - (i : Int) := IntWalk.i64_in _ (by omega)
       have k4 : (i : Int) + ((m : Int) - (i : Int)) = (m : Int) := by omega
       have k5 : i ≤ m := by omega
       have k6 : m ≤ i := by omega
       have HM := hide hm
       clear hm
       go_wp2_with (first
        | (go_at_call 132; refine (HOP.out _ (hbel3 : Ext w wq) (i + 1) y Hy.out).mono ?_; rintro x9 w4 ⟨rfl, hb4⟩; rw [ho2]; obtain ⟨hc4, hf4⟩ := hb4.cells; have hz4 := hb4.size; (repeat (first | rw [World.size_alloc] at hz4 | rw [World.size_drew] at hz4)); have z4_0 : g < w4.heap.size := (by omega))
        | (at_builtin; refine wpList_app pairE T_gates rfl _ _ rfl w.heap.size _ _ (pick B D) rfl ((HO3.out.ext z_x).alloc _) z _ _ rfl _ (by simp) rfl (by omega) (by omega) (by simp; omega) ?_; intro g9 c9 w9 hown9 hb9; have HO9 := hide hown9; clear hown9))
       go_step3
       refine And.intro (Or.inl ⟨rfl, i + 1, _, _, D ++ [m], ⟨_, _, _, _, _, _, _, _, _, _, _, _, _, _, _, _, _, _, _, _, _, _, _, _, _, _, _, _, _, _, _, _, _, _, _, _, _, _, _, _, _, _, _, _, _, _, _, _, rfl⟩, by omega, ?_, ?_, ?_, below_app hbel3 z_x (by omega) hb9⟩) ?_
       ·rw [List.append_assoc]; have g1 := HG.out; have g2 := HD.out; rw [g1] at g2; exact g2
       ·rw [pick_snoc B D m z Hz.out, List.length_append]; simp; omega
       ·rw [pick_snoc B D m z Hz.out]; exact HO9.out
       ·simp [intOf]; omega
      ·go_wp2_with (go_at_call 132; refine (HOP.out _ (hbel3 : Ext w wq) (i + 1) y Hy.out).mono ?_; rintro x9 w4 ⟨rfl, hb4⟩; rw [ho2]; obtain ⟨hc4, hf4⟩ := hb4.cells; have hz4 := hb4.size; (repeat (first | rw [World.size_alloc] at hz4 | rw [World.size_drew] at hz4)); have z4_0 : g < w4.heap.size := (by omega))
       go_step3
       refine And.intro (Or.inr ⟨rfl, i + 1, i, _, D, ⟨_, _, _, _, _, _, _, _, _, _, _, _, _, _, _, _, _, _, _, _, _, _, _, _, _, _, _, _, _, _, _, _, _, _, _, _, _, _, _, _, _, _, _, _, _, _, _, _, rfl⟩, by omega, by omega, fun j j1 j2 => ?_, HD.out, by omega, HO3.out.ext z_x, ?_⟩) ?_
       ·by_cases ej : j = i + 1
        ·subst ej; exact ho2
        ·exact HF.out j j1 (by omega)
       ·exact Ext.trans (hbel3 : Ext w wq) z_x
       ·simp [intOf]; omega
     ·have HG := hide (gates_run (o := op) (n := B.length) (i := i) (e := (i + 1)) (by omega) (by omega) (fun j j1 j2 => HF.out j j1 (by omega)) (.inl (by omega)))
      obtain ⟨m, hm⟩ : ∃ m : Nat, m = i + ((i + 1) - i - 1) / 2 := ⟨_, rfl⟩
      rw [← hm] at HG
      have hml : m < B.length := by omega
      obtain ⟨z, hz⟩ : ∃ z, B[m]? = some z := ⟨_, List.getElem?_eq_getElem hml⟩
      have ez : B[m] = z := by rw [List.getElem?_eq_getElem hml] at hz; exact Option.some.inj hz
      obtain ⟨z1, z2, z3, z4⟩ := (HP.out.ext hb (hbel3 : Ext w wq)) (m) hml
      rw [ez] at z1 z2 z3 z4
      simp only [Nat.zero_add] at z1 z2 z3 z4
      have Hz := hide hz
      clear hz ez
      have k2 : ((i : Int) + 1 - (i : Int) - 1).tdiv 2 = (m : Int) - (i : Int) := by rw [HDIV.out _ (by omega)]; omega
      have k2' : ((i : Int) - (i : Int)).tdiv 2 = (m : Int) - (i : Int) := by rw [HDIV.out _ (by omega)]; omega
      have k3 : IntKind.i64.wrap ((m : Int) - (i : Int)) = (m : Int) - (i : Int) := IntWalk.i64_in _ (by omega)
      have k4 : (i : Int) + ((m : Int) - (i : Int)) = (m : Int) := by omega
      have k5 : i ≤ m := by omega
      have k6 : m ≤ i := by omega
      have HM := hide hm
      clear hm
      go_wp2_with (first
       | (at_builtin; refine wpList_app pairE T_gates rfl _ _ rfl w.heap.size _ _ (pick B D) rfl (HO3.out.alloc _) z _ _ rfl _ (by simp) rfl (by omega) (by omega) (by simp; omega) ?_; intro g9 c9 w9 hown9 hb9; have HO9 := hide hown9; clear hown9))
      go_step3
      refine And.intro (Or.inl ⟨rfl, i + 1, _, _, D ++ [m], ⟨_, _, _, _, _, _, _, _, _, _, _, _, _, _, _, _, _, _, _, _, _, _, _, _, _, _, _, _, _, _, _, _, _, _, _, _, _, _, _, _, _, _, _, _, _, _, _, _, rfl⟩, by omega, ?_, ?_, ?_, below_app hbel3 z_x (by omega) hb9⟩) ?_
      ·rw [List.append_assoc]; have g1 := HG.out; have g2 := HD.out; rw [g1] at g2; exact g2
      ·rw [pick_snoc B D m z Hz.out, List.length_append]; simp; omega
      ·rw [pick_snoc B D m z Hz.out]; exact HO9.out
      ·simp [intOf]; omega
   ·obtain rfl : i = B.length := by omega
    have heq : ((B.length : Int) == (B.length : Int)) = true := by simp
    go_wp2
    simp only [jumps]
    go_ret
    have hd := HD.out
    rw [gates_end, List.append_nil] at hd
    exact ⟨_, rfl, hxr, by rw [← hd]; exact HO.out⟩
  ·refine ⟨_, rfl, ?_⟩
   dsimp only
   have HO := hide hown
   have HD := hide hD
   have HF := hide hF
   have hxr : Ext w wr := hbel
   have hbel0 : Below w.heap.size w wr := hbel
   have hz := hxr.size
   have zr : g < wr.heap.size := by omega
   clear hown hD hbel hF
   by_cases h2 : i + 1 < B.length
   ·have h2i : (i : Int) + 1 < (B.length : Int) := by omega
    obtain ⟨y, hy⟩ : ∃ y, B[i + 1]? = some y := ⟨_, List.getElem?_eq_getElem h2⟩
    have ey : B[i + 1] = y := by rw [List.getElem?_eq_getElem h2] at hy; exact Option.some.inj hy
    obtain ⟨y1, y2, y3, y4⟩ := (HP.out.ext hb hxr) (i + 1) h2
    rw [ey] at y1 y2 y3 y4
    simp only [Nat.zero_add] at y1 y2 y3 y4
    have Hy := hide hy
    clear hy ey
    cases ho2 : op (i + 1)
    ·have HG := hide (gates_run (o := op) (n := B.length) (i := fr) (e := (i + 1)) (by omega) (by omega) (fun j j1 j2 => HF.out j j1 (by omega)) (.inr ho2))
     obtain ⟨m, hm⟩ : ∃ m : Nat, m = fr + ((i + 1) - fr - 1) / 2 := ⟨_, rfl⟩
     rw [← hm] at HG
     have hml : m < B.length := by omega
     obtain ⟨z, hz⟩ : ∃ z, B[m]? = some z := ⟨_, List.getElem?_eq_getElem hml⟩
     have ez : B[m] = z := by rw [List.getElem?_eq_getElem hml] at hz; exact Option.some.inj hz
     obtain ⟨z1, z2, z3, z4⟩ := (HP.out.ext hb hxr) (m) hml
     rw [ez] at z1 z2 z3 z4
     simp only [Nat.zero_add] at z1 z2 z3 z4
     have Hz := hide hz
     clear hz ez
     have k2 : ((i : Int) + 1 - (fr : Int) - 1).tdiv 2 = (m : Int) - (fr : Int) := by rw [HDIV.out _ (by omega)]; omega
     have k2' : ((i : Int) - (fr : Int)).tdiv 2 = (m : Int) - (fr : Int) := by rw [HDIV.out _ (by omega)]; omega
     have k3 : IntKind.i64.wrap ((m : Int) - (fr : Int)) = (m : Int) - (fr : Int) := IntWalk.i64_in _ (by omega)
     have k4 : (fr : Int) + ((m : Int) - (fr : Int)) = (m : Int) := by omega
     have k5 : fr ≤ m := by omega
     have k6 : m ≤ i := by omega
     have HM := hide hm
     clear hm
     go_wp2_with (first
      | (go_at_call 132; refine (HOP.out _ hxr (i + 1) y Hy.out).mono ?_; rintro x9 w4 ⟨rfl, hb4⟩; rw [ho2]; obtain ⟨hc4, hf4⟩ := hb4.cells; have hz4 := hb4.size; (repeat (first | rw [World.size_alloc] at hz4 | rw [World.size_drew] at hz4)); have z4_0 : g < w4.heap.size := (by omega))
      | (at_builtin; refine wpList_app pairE T_gates rfl _ _ rfl w.heap.size _ _ (pick B D) rfl ((HO.out.ext z_x).alloc _) z _ _ rfl _ (by simp) rfl (by omega) (by omega) (by simp; omega) ?_; intro g9 c9 w9 hown9 hb9; have HO9 := hide hown9; clear hown9))
     go_step3
     refine And.intro (Or.inl ⟨rfl, i + 1, _, _, D ++ [m], ⟨_, _, _, _, _, _, _, _, _, _, _, _, _, _, _, _, _, _, _, _, _, _, _, _, _, _, _, _, _, _, _, _, _, _, _, _, _, _, _, _, _, _, _, _, _, _, _, _, rfl⟩, by omega, ?_, ?_, ?_, below_app hbel0 z_x (by omega) hb9⟩) ?_
     ·rw [List.append_assoc]; have g1 := HG.out; have g2 := HD.out; rw [g1] at g2; exact g2
     ·rw [pick_snoc B D m z Hz.out, List.length_append]; simp; omega
     ·rw [pick_snoc B D m z Hz.out]; exact HO9.out
     ·simp [intOf]; omega
    ·go_wp2_with (go_at_call 132; refine (HOP.out _ hxr (i + 1) y Hy.out).mono ?_; rintro x9 w4 ⟨rfl, hb4⟩; rw [ho2]; obtain ⟨hc4, hf4⟩ := hb4.cells; have hz4 := hb4.size; (repeat (first | rw [World.size_alloc] at hz4 | rw [World.size_drew] at hz4)); have z4_0 : g < w4.heap.size := (by omega))
     go_step3
     refine And.intro (Or.inr ⟨rfl, i + 1, fr, _, D, ⟨_, _, _, _, _, _, _, _, _, _, _, _, _, _, _, _, _, _, _, _, _, _, _, _, _, _, _, _, _, _, _, _, _, _, _, _, _, _, _, _, _, _, _, _, _, _, _, _, rfl⟩, by omega, by omega, fun j j1 j2 => ?_, HD.out, by omega, HO.out.ext z_x, ?_⟩) ?_
     ·by_cases ej : j = i + 1
      ·subst ej; exact ho2
      ·exact HF.out j j1 (by omega)
     ·exact Ext.trans hxr z_x
     ·simp [intOf]; omega
   ·have HG := hide (gates_run (o := op) (n := B.length) (i := fr) (e := (i + 1)) (by omega) (by omega) (fun j j1 j2 => HF.out j j1 (by omega)) (.inl (by omega)))
    obtain ⟨m, hm⟩ : ∃ m : Nat, m = fr + ((i + 1) - fr - 1) / 2 := ⟨_, rfl⟩
    rw [← hm] at HG
    have hml : m < B.length := by omega
    obtain ⟨z, hz⟩ : ∃ z, B[m]? = some z := ⟨_, List.getElem?_eq_getElem hml⟩
    have ez : B[m] = z := by rw [List.getElem?_eq_getElem hml] at hz; exact Option.some.inj hz
    obtain ⟨z1, z2, z3, z4⟩ := (HP.out.ext hb hxr) (m) hml
    rw [ez] at z1 z2 z3 z4
    simp only [Nat.zero_add] at z1 z2 z3 z4
    have Hz := hide hz
    clear hz ez
    have k2 : ((i : Int) + 1 - (fr : Int) - 1).tdiv 2 = (m : Int) - (fr : Int) := by rw [HDIV.out _ (by omega)]; omega
    have k2' : ((i : Int) - (fr : Int)).tdiv 2 = (m : Int) - (fr : Int) := by rw [HDIV.out _ (by omega)]; omega
    have k3 : IntKind.i64.wrap ((m : Int) - (fr : Int)) = (m : Int) - (fr : Int) := IntWalk.i64_in _ (by omega)
    have k4 : (fr : Int) + ((m : Int) - (fr : Int)) = (m : Int) := by omega
    have k5 : fr ≤ m := by omega
    have k6 : m ≤ i := by omega
    have HM := hide hm
    clear hm
    go_wp2_with (first
     | (at_builtin; refine wpList_app pairE T_gates rfl _ _ rfl w.heap.size _ _ (pick B D) rfl (HO.out.alloc _) z _ _ rfl _ (by simp) rfl (by omega) (by omega) (by simp; omega) ?_; intro g9 c9 w9 hown9 hb9; have HO9 := hide hown9; clear hown9))
    go_step3
    refine And.intro (Or.inl ⟨rfl, i + 1, _, _, D ++ [m], ⟨_, _, _, _, _, _, _, _, _, _, _, _, _, _, _, _, _, _, _, _, _, _, _, _, _, _, _, _, _, _, _, _, _, _, _, _, _, _, _, _, _, _, _, _, _, _, _, _, rfl⟩, by omega, ?_, ?_, ?_, below_app hbel0 z_x (by omega) hb9⟩) ?_
    ·rw [List.append_assoc]; have g1 := HG.out; have g2 := HD.out; rw [g1] at g2; exact g2
    ·rw [pick_snoc B D m z Hz.out, List.length_append]; simp; omega
    ·rw [pick_snoc B D m z Hz.out]; exact HO9.out
    ·simp [intOf]; omega
def opB (l : List Int) (W : Int) (B : List (Cell × Cell)) (k : Nat) : Bool := match B[k]? with
 | some p => openP l W p
 | none => false
def InMap (W H : Int) (p : Cell × Cell) : Prop := (0 ≤ p.1.1 ∧ p.1.1 < W ∧ 0 ≤ p.1.2 ∧ p.1.2 < H) ∧ (0 ≤ p.2.1 ∧ p.2.1 < W ∧ 0 ≤ p.2.2 ∧ p.2.2 < H)
def gatesL (l : List Int) (W : Int) (B : List (Cell × Cell)) : List (Cell × Cell) := pick B (gatesI (opB l W B) B.length 0)
def RetGatesE (w : World) (L : List (Cell × Cell)) (err : Int) (e : Ending) (w' : World) : Prop := ∃ v, e = .returned (.tuple #[v, .int .i64 err]) ∧ Ext w w' ∧ Own pairE w' w.heap.size 160 v L
set_option maxRecDepth 100000 in
set_option maxHeartbeats 1000000 in
theorem gtBetween_yes (W H : Int) (a : Option Addr) (l : List Int) (c : Nat) (s x y : Int) (B : List (Cell × Cell)) (w : World) (hm : mayB W H = true) (hl : (l.length : Int) = W * H) (hr : Row16 w a l)
  (hB : ∀ w, Calls Tryz.prog 129 #[.agg #[.int .i64 W, .int .i64 H, .int .i64 s], .int .i64 x, .int .i64 y] w (RetPairs w B 0)) (hl1 : 0 < B.length) (hl2 : B.length ≤ 1000) (hin : ∀ (k : Nat) (p : Cell × Cell), B[k]? = some p → InMap W H p) :
  Calls Tryz.prog 78 #[.agg #[.int .i64 W, .int .i64 H, .slice a l.length c], .agg #[.int .i64 W, .int .i64 H, .int .i64 s], .int .i64 x, .int .i64 y] w (RetGatesE w (gatesL l W B) 0) := by
 have h0 := hide (show gateE W H W H l.length = 0 by simp [gateE, checkE_ok.2 ⟨hm, hl⟩])
 have HB := hide hB
 have HL := hide hl
 have HR := hide hr
 have HIN := hide hin
 clear hB hl hr hin
 obtain ⟨n, hn⟩ : ∃ n, l.length = n := ⟨_, rfl⟩
 rw [hn] at h0 ⊢
 have HN := hide hn
 clear hn
 go_enter Tryz.func78, Tryz.ntmps78
 go_wp2_with (first
  | (go_at_call 128; refine (gtCheck_any _ _ _ _ _ _ _ _ _).mono ?_; rintro e w1 ⟨rfl, hb1⟩; rw [h0.out]; obtain ⟨hc1, hf1⟩ := hb1.cells; have hz1 := hb1.size; (repeat (first | rw [World.size_alloc] at hz1 | rw [World.size_drew] at hz1)); have z1_0 : w.heap.size < w1.heap.size := (by omega); have z1_1 : w.heap.size + 1 < w1.heap.size := (by omega))
  | (go_at_call 129; refine (HB.out _).mono ?_; rintro e w2 ⟨v, rfl, hb2, hv⟩; obtain ⟨g, cc, rfl, hg1, hg2⟩ := hv.pos hl1; have HV := hide hv; clear hv; obtain ⟨hc2, hf2⟩ := hb2.cells; have hz2 := hb2.size; (repeat (first | rw [World.size_alloc] at hz2 | rw [World.size_drew] at hz2)); have z2_0 : w.heap.size < w2.heap.size := (by omega); have z2_1 : w.heap.size + 1 < w2.heap.size := (by omega)))
 obtain ⟨w3, hw3⟩ : ∃ w3, w3 = w2.alloc (.cells #[.func (.func 130) #[] #[.pointer (some ⟨w.heap.size, 0, none⟩)]] 223) := ⟨_, rfl⟩
 have hx2 : Ext w w2 := z_x
 have hx3 : Ext w w3 := by rw [hw3]; exact z_x
 have hx23 : Ext w2 w3 := by rw [hw3]; exact z_x
 have zq : w.heap.size < w3.heap.size := by have := hx23.size; omega
 have zr : w2.heap.size < w3.heap.size := by rw [hw3]; simp
 have k0 : w3.cell? ⟨w.heap.size, 0, none⟩ = some (.int .i64 W) := by rw [hx23.cell (p := ⟨w.heap.size, 0, none⟩) z2_0, hc2 _ _ z1_0, hc1 _ _ (by simp; omega)]; simp [go_sem]
 have k1 : w3.cell? ⟨w.heap.size, 2, none⟩ = some (.slice a n c) := by rw [hx23.cell (p := ⟨w.heap.size, 2, none⟩) z2_0, hc2 _ _ z1_0, hc1 _ _ (by simp; omega)]; simp [go_sem]
 have k2 : w3.cell? ⟨w2.heap.size, 0, none⟩ = some (.func (.func 130) #[] #[.pointer (some ⟨w.heap.size, 0, none⟩)]) := by rw [hw3]; simp [go_sem]
 have hop : ∀ w', Ext w3 w' → ∀ (k : Nat) (p : Cell × Cell), B[k]? = some p → Calls Tryz.prog 132 #[.agg #[.int .i64 p.1.1, .int .i64 p.1.2, .int .i64 p.2.1, .int .i64 p.2.2], .pointer (some ⟨w2.heap.size, 0, none⟩)] w' fun e w2 => e = .returned (.bool (opB l W B k)) ∧ Ext w' w2 := by
  intro w' hx k p hp
  have e : opB l W B k = openP l W p := by unfold opB; rw [hp]
  rw [e]
  have hi := HIN.out k p hp
  exact gtB2_any W H a l c w.heap.size w2.heap.size p w' hm HL.out (HR.out.ext (hx3.trans hx)) (Nat.lt_of_lt_of_le zq hx.size) (Nat.lt_of_lt_of_le zr hx.size)
   ((hx.cell (p := ⟨w.heap.size, 0, none⟩) zq).trans k0) (by rw [HN.out]; exact (hx.cell (p := ⟨w.heap.size, 2, none⟩) zq).trans k1) ((hx.cell (p := ⟨w2.heap.size, 0, none⟩) zr).trans k2) hi.1 hi.2
 have HOP := hide hop
 have HX3 := hide hx3
 have hg3 : g < w3.heap.size := by have := hx23.size; omega
 have HPA := hide ((HV.out.ext hx23).reads.pairs.2)
 rw [← hw3]
 clear hop k0 k1 k2 hb1 hb2 hc1 hc2 hf1 hf2 hw3 hx2 hx3 hx23
 go_wp2_with fail
 refine (gtRuns_any g cc B _ (opB l W B) _ (by omega) hg3 HPA.out HOP.out).mono ?_
 rintro e w4 ⟨v, rfl, hb4, hv⟩
 have HV4 := hide hv
 clear hv
 go_wp2
 go_ret2
 exact ⟨_, rfl, HX3.out.trans hb4, HV4.out.lower (by omega)⟩
theorem border_in {W H s lo hi : Int} (hr : rightB W H s = true) (h0 : 0 ≤ lo) (hlt : lo < hi) (h1 : hi < cnt W H s) (hn : hasI (besideL W H s lo) hi = true) (k : Nat) (p : Cell × Cell) (hk : (borderL W H s lo hi)[k]? = some p) : InMap W H p := by
 have h := border_at hr ((near_pair hr h0 hlt h1).1 hn) hk
 obtain ⟨z1, z2, _⟩ := h
 rw [inB_true] at z1 z2
 exact ⟨⟨by omega, by omega, by omega, by omega⟩, ⟨by omega, by omega, by omega, by omega⟩⟩
def bords (W H s x y : Int) : List (Cell × Cell) := borderL W H s (min x y) (max x y)
theorem ne_of_beside {W H s x y : Int} (hr : rightB W H s = true) (hn : hasI (besideL W H s (min x y)) (max x y) = true) : min x y < max x y := by
 rcases Int.lt_trichotomy x y with h | h | h
 ·omega
 ·subst h
  rw [show min x x = x by omega, show max x x = x by omega, beside_self hr] at hn
  simp at hn
 ·omega
theorem gtBetween_near (W H : Int) (a : Option Addr) (l : List Int) (c : Nat) (s x y : Int) (w : World) (hm : checkE W H l.length = 0) (hr : Row16 w a l) (ht : rightB W H s = true)
  (hx0 : 0 ≤ x) (hx : x < cnt W H s) (hy0 : 0 ≤ y) (hy : y < cnt W H s) (hn : hasI (besideL W H s (min x y)) (max x y) = true) :
  Calls Tryz.prog 78 #[.agg #[.int .i64 W, .int .i64 H, .slice a l.length c], .agg #[.int .i64 W, .int .i64 H, .int .i64 s], .int .i64 x, .int .i64 y] w (RetGatesE w (pick (bords W H s x y) (refI (opB l W (bords W H s x y)) (bords W H s x y).length (bords W H s x y).length)) 0) := by
 have hne := ne_of_beside ht hn
 have hlB := borderL_len (hi := max x y) ht (lo := min x y) (by omega) (by omega)
 have hlP := borderL_pos (hi := max x y) ht (lo := min x y) (by omega) (by omega)
 obtain ⟨m1, m2⟩ := checkE_ok.1 hm
 have h := gtBetween_yes W H a l c s x y (bords W H s x y) w m1 m2 hr (fun w => Border_yes W H s x y w ht hx0 hx hy0 hy hn) hlP (by unfold bords; omega)
  (fun k p hk => border_in ht (by omega) hne (by omega) hn k p hk)
 unfold gatesL at h
 rwa [gates_all] at h
end Go.Proofs.YtaellcgglldjaaaGreat

