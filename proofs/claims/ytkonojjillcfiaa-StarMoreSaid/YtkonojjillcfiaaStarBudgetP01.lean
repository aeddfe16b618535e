/- Part 1 of 14 of the proof of StarBudget. -/
import Derived.Test.YtkonojjillcfiaaRows
import Derived.WalkKit
import Derived.WalkSpells
import Derived.Deep.RegionHeld3
import Derived.RowKit3
import Derived.Lib.Hide
import Derived.BigGuardPart
import Derived.OneCell
import Derived.Deep.QuietTactic
import Derived.BigQuiet
import Derived.LoopTactic
import Derived.Deep.LoopGhost
import Derived.Laws.OwnMore
import Derived.Maps.OwnSet
import Derived.Maps.AppendAt
import Derived.DeepKeys
set_option linter.all false
set_option linter.unusedVariables false
set_option linter.unusedSimpArgs false
/- Words of my own for the walks: a world grown by new blocks alone (Ext), what a region keeps, small lemmas on numbers. -/
namespace Go.Proofs.Ytkonojjillcfiaa
open Go.RowKit

theorem hide {p : Prop} (h : p) : Hid p := h

/-- All blocks that stood in w stand in w' as they did; new ones may have come. -/
def Ext (w w' : World) : Prop := Below w.heap.size w w'

theorem Ext.below {w w' : World} (h : Ext w w') : Below w.heap.size w w' := h
theorem Ext.refl (w : World) : Ext w w := Below.refl _ _
theorem Ext.size {a b : World} (h : Ext a b) : a.heap.size ≤ b.heap.size := Below.size h
theorem Ext.trans {a b c : World} (h : Ext a b) (k : Ext b c) : Ext a c := Below.trans h (Below.mono k h.size)
theorem Ext.drew {a b : World} (h : Ext a b) : Ext a b.drew := Below.drew h
theorem Ext.drewN {a b : World} (h : Ext a b) (n : Nat) : Ext a (b.drewN n) := ⟨h.os, h.tape, h.output, h.size, fun k hk => h.below.block k hk⟩
theorem Ext.alloc {a b : World} (h : Ext a b) (o : Obj) : Ext a (b.alloc o) := Below.alloc h h.size o
theorem Ext.setCell {a b : World} (h : Ext a b) {p : Addr} (hp : a.heap.size ≤ p.block) (u : Value) : Ext a (b.setCell p u) := Below.setCell h hp u
theorem Ext.cell {a b : World} (h : Ext a b) {p : Addr} (hp : p.block < a.heap.size) : b.cell? p = a.cell? p := Below.cell h hp
theorem Ext.block {a b : World} (h : Ext a b) {k : Nat} (hk : k < a.heap.size) : b.heap[k]? = a.heap[k]? := Below.block h k hk
theorem Ext.cells {W w1 : World} (hb : Ext W w1) : (∀ b o, b < W.heap.size → w1.cell? ⟨b, o, none⟩ = W.cell? ⟨b, o, none⟩) ∧ (∀ b o, b < W.heap.size → w1.frozen? ⟨b, o, none⟩ = W.frozen? ⟨b, o, none⟩) :=
  ⟨fun b o h => Below.cell hb (p := ⟨b, o, none⟩) h, fun b o h => Below.frozen hb (p := ⟨b, o, none⟩) h⟩
theorem Ext.grown {a b c : World} {row : Option Nat} (h : Ext a b) (hg : b.grownBy c row) (hr : ∀ k, row = some k → a.heap.size ≤ k) : Ext a c := Below.grown h hg h.size hr

/-- What a region keeps: the cells that stood when it began. -/
theorem pr_start (W0 : World) : (∀ b o, b < W0.heap.size → W0.drew.cell? ⟨b, o, none⟩ = W0.cell? ⟨b, o, none⟩) ∧ Ext W0 W0.drew :=
  ⟨fun _ _ _ => rfl, (Ext.refl _).drew⟩
theorem pr_step {W0 W W' : World} (h : (∀ b o, b < W0.heap.size → W.cell? ⟨b, o, none⟩ = W0.cell? ⟨b, o, none⟩) ∧ Ext W0 W) (hb : Ext W W') :
    (∀ b o, b < W0.heap.size → W'.cell? ⟨b, o, none⟩ = W0.cell? ⟨b, o, none⟩) ∧ Ext W0 W' :=
  have hx := h.2.trans hb
  ⟨fun b o hlt => hx.cell (p := ⟨b, o, none⟩) hlt, hx⟩

/-- The cells of a block that was laid just now. -/
theorem cells_new (w : World) (cs : Array Value) (t : TypeId) : ∀ j u, cs.toList[j]? = some u → (w.alloc (.cells cs t)).cell? ((⟨w.heap.size, 0, none⟩ : Addr).add j) = some u := by
  intro j u hu
  have hadd : (⟨w.heap.size, 0, none⟩ : Addr).add j = ⟨w.heap.size, j, none⟩ := by unfold Addr.add; split <;> simp_all
  rw [hadd]
  have : (w.alloc (.cells cs t)).heap[w.heap.size]? = some (.cells cs t) := heap_alloc_new w _
  simp only [World.cell?, this]
  simpa using hu
theorem Ext.of_below {a b c : World} {q : Nat} (h : Ext a b) (k : Below q b c) (hq : a.heap.size ≤ q) : Ext a c := Below.trans h (Below.mono k hq)
theorem heap_new (w : World) (o : Obj) : (w.alloc o).heap[w.heap.size]? = some o := heap_alloc_new w o
theorem ints_one (l : List Int) : ∀ u ∈ l.map (Value.int .i64), u.oneCell' = true := ints_oneCell _ _

theorem pr_of {W0 W : World} (h : Ext W0 W) : (∀ b o, b < W0.heap.size → W.cell? ⟨b, o, none⟩ = W0.cell? ⟨b, o, none⟩) ∧ Ext W0 W :=
  ⟨fun b o hlt => h.cell (p := ⟨b, o, none⟩) hlt, h⟩
theorem pr_alloc {W0 W : World} (h : (∀ b o, b < W0.heap.size → W.cell? ⟨b, o, none⟩ = W0.cell? ⟨b, o, none⟩) ∧ Ext W0 W) (x : Obj) :
    (∀ b o, b < W0.heap.size → (W.alloc x).cell? ⟨b, o, none⟩ = W0.cell? ⟨b, o, none⟩) ∧ Ext W0 (W.alloc x) := pr_step h ((Ext.refl _).alloc x)
theorem pr_set {W0 W : World} (h : (∀ b o, b < W0.heap.size → W.cell? ⟨b, o, none⟩ = W0.cell? ⟨b, o, none⟩) ∧ Ext W0 W) {p : Addr} (hp : W0.heap.size ≤ p.block) (u : Value) :
    (∀ b o, b < W0.heap.size → (W.setCell p u).cell? ⟨b, o, none⟩ = W0.cell? ⟨b, o, none⟩) ∧ Ext W0 (W.setCell p u) :=
  have hx := h.2.setCell hp u
  ⟨fun b o hlt => hx.cell (p := ⟨b, o, none⟩) hlt, hx⟩

/-- A slice type with its element type: what append asks of the table. -/
structure ElemT (P : Program) (t e : TypeId) (z : Value) (size bytes : Nat) : Prop where
  under : P.underlying t = some (.slice e)
  info : (P.info? e).map (fun i => (i.zero, i.size, i.bytes)) = some (some z, size, bytes)
  zs : z.cells.size = size
  pos : 0 < size

/-- A way of laying data into cells: a fixed number of one-cell values. -/
structure Enc (α : Type) where
  size : Nat
  cells : α → List Value
  len : ∀ a, (cells a).length = size
  one : ∀ a, ∀ u ∈ cells a, u.oneCell' = true

theorem Enc.flat_len {α : Type} (E : Enc α) (l : List α) : (l.flatMap E.cells).length = l.length * E.size := by
  induction l with
  | nil => simp
  | cons a l ih => simp [ih, E.len, Nat.add_mul]; omega
theorem Enc.flat_one {α : Type} (E : Enc α) (l : List α) : ∀ u ∈ l.flatMap E.cells, u.oneCell' = true := by
  intro u hu
  obtain ⟨a, _, h⟩ := List.mem_flatMap.1 hu
  exact E.one a u h

/-- The slice value v owns, among the blocks from base on, a row that reads as l. -/
def Own {α : Type} (E : Enc α) (w : World) (base : Nat) (e : TypeId) (v : Value) (l : List α) : Prop := w.ownsRow base e E.size v l.length (l.flatMap E.cells)

theorem Own.nil {α : Type} (E : Enc α) (w : World) (base : Nat) (e : TypeId) : Own E w base e (.slice none 0 0) [] := ⟨by simp, .inl ⟨rfl, rfl⟩⟩

theorem Own.below {α : Type} {E : Enc α} {w w' : World} {base : Nat} {e : TypeId} {v : Value} {l : List α} (h : Own E w base e v l) (hb : Below w.heap.size w w') : Own E w' base e v l := by
  refine World.ownsRow.kept (row := none) h ⟨hb.os, hb.tape, hb.output, hb.size, fun k hk _ => hb.block k hk⟩ ?_
  cases v.ownBlock <;> simp
theorem Own.ext {α : Type} {E : Enc α} {w w' : World} {base : Nat} {e : TypeId} {v : Value} {l : List α} (h : Own E w base e v l) (hb : Ext w w') : Own E w' base e v l := h.below hb
theorem Own.drew {α : Type} {E : Enc α} {w : World} {base : Nat} {e : TypeId} {v : Value} {l : List α} (h : Own E w base e v l) : Own E w.drew base e v l := h
theorem Own.alloc {α : Type} {E : Enc α} {w : World} {base : Nat} {e : TypeId} {v : Value} {l : List α} (h : Own E w base e v l) (o : Obj) : Own E (w.alloc o) base e v l := World.ownsRow.alloc h o
theorem Own.lower {α : Type} {E : Enc α} {w : World} {base base' : Nat} {e : TypeId} {v : Value} {l : List α} (h : Own E w base e v l) (hb : base' ≤ base) : Own E w base' e v l := by
  refine ⟨h.1, ?_⟩
  rcases h.2 with hn | ⟨g, cap, cur, hv, hg, r⟩
  · exact .inl hn
  · exact .inr ⟨g, cap, cur, hv, Nat.le_trans hb hg, r⟩
/-- A store into a block below base leaves the row. -/
theorem Own.setCell {α : Type} {E : Enc α} {w : World} {base : Nat} {e : TypeId} {v : Value} {l : List α} (h : Own E w base e v l) {a : Addr} (ha : a.block < base) (u : Value) : Own E (w.setCell a u) base e v l := ownsRow_setCell_below h ha u

/-- The cells that a slice value reads: nil and empty, or a row somewhere. -/
def Reads {α : Type} (E : Enc α) (w : World) (v : Value) (l : List α) : Prop :=
  (v = .slice none 0 0 ∧ l = []) ∨ ∃ b off cap, v = .slice (some ⟨b, off, none⟩) l.length cap ∧ b < w.heap.size ∧ ∀ (k : Nat) (a : α), l[k]? = some a → ∀ (j : Nat) (u : Value), (E.cells a)[j]? = some u → w.cell? ⟨b, off + (k * E.size + j), none⟩ = some u

theorem flat_at {α : Type} (E : Enc α) (l : List α) (k : Nat) (a : α) (h : l[k]? = some a) (j : Nat) (u : Value) (hu : (E.cells a)[j]? = some u) : (l.flatMap E.cells)[k * E.size + j]? = some u := by
  induction l generalizing k with
  | nil => simp at h
  | cons b l ih =>
    cases k with
    | zero =>
      simp at h; subst h
      have hj : j < (E.cells b).length := (List.getElem?_eq_some_iff.1 hu).1
      simp [List.getElem?_append_left hj, hu]
    | succ k =>
      simp at h
      have := ih k h
      rw [List.flatMap_cons, List.getElem?_append_right (by rw [E.len, Nat.add_mul]; omega), E.len]
      rw [show (k + 1) * E.size + j - E.size = k * E.size + j by rw [Nat.add_mul]; omega]
      exact this

theorem Own.reads {α : Type} {E : Enc α} {w : World} {base : Nat} {e : TypeId} {v : Value} {l : List α} (h : Own E w base e v l) : Reads E w v l := by
  obtain ⟨h1, h2⟩ := h
  rcases h2 with ⟨rfl, h3⟩ | ⟨g, cap, cur, rfl, hb, hg, hn, hm, hs, ht⟩
  · exact .inl ⟨rfl, List.eq_nil_of_length_eq_zero h3⟩
  · refine .inr ⟨g, 0, cap, rfl, lt_of_block hg, fun k a ha j u hu => ?_⟩
    have hf := flat_at E l k a ha j u hu
    rw [← ht, List.getElem?_take] at hf
    split at hf
    · simp only [World.cell?, hg, Nat.zero_add]
      simpa using hf
    · cases hf
theorem Reads.ext {α : Type} {E : Enc α} {w w' : World} {v : Value} {l : List α} (h : Reads E w v l) (he : Ext w w') : Reads E w' v l := by
  rcases h with h | ⟨b, off, cap, hv, hb, h⟩
  · exact .inl h
  · exact .inr ⟨b, off, cap, hv, Nat.lt_of_lt_of_le hb he.size, fun k a ha j u hu => (he.cell (p := ⟨b, _, none⟩) hb).trans (h k a ha j u hu)⟩

theorem Own.cons {α : Type} {E : Enc α} {w : World} {base : Nat} {e : TypeId} {v : Value} {l : List α} {y : α} (h : Own E w base e v (l ++ [y])) : ∃ g c, v = .slice (some ⟨g, 0, none⟩) (l.length + 1) c := by
  rcases h.2 with ⟨_, hn⟩ | ⟨g, cap, cur, hv, _⟩
  · simp at hn
  · exact ⟨g, cap, by rw [hv]; simp⟩
theorem Own.slice {α : Type} {E : Enc α} {w : World} {base : Nat} {e : TypeId} {v : Value} {l : List α} (h : Own E w base e v l) : ∃ a c, v = .slice a l.length c := by
  rcases h.2 with ⟨hv, hn⟩ | ⟨g, cap, cur, hv, _⟩
  · exact ⟨none, 0, by rw [hv, hn]⟩
  · exact ⟨_, cap, hv⟩
theorem Reads.slice {α : Type} {E : Enc α} {w : World} {v : Value} {l : List α} (h : Reads E w v l) : ∃ a c, v = .slice a l.length c := by
  rcases h with ⟨hv, hn⟩ | ⟨b, off, cap, hv, _⟩
  · exact ⟨none, 0, by rw [hv, hn]; rfl⟩
  · exact ⟨_, cap, hv⟩

/-- A slice literal: what its block was laid with. -/
theorem reads_lit {α : Type} (E : Enc α) (w : World) (cs : Array Value) (t : TypeId) (l : List α) (h : cs.toList = l.flatMap E.cells) (b c n : Nat) (hb : b = w.heap.size) (hn : n = l.length) : Reads E (w.alloc (.cells cs t)) (.slice (some ⟨b, 0, none⟩) n c) l := by
  subst hb; subst hn
  refine .inr ⟨_, 0, c, rfl, by simp, fun k a ha j u hu => ?_⟩
  have hf := flat_at E l k a ha j u hu
  rw [← h] at hf
  have := cells_new w cs t _ u hf
  have hadd : (⟨w.heap.size, 0, none⟩ : Addr).add (k * E.size + j) = ⟨w.heap.size, 0 + (k * E.size + j), none⟩ := by unfold Addr.add; split <;> simp_all
  rw [hadd] at this
  exact this

theorem Own.lit0 {α : Type} (E : Enc α) (w : World) (base b : Nat) (e : TypeId) (hb : b = w.heap.size) (hbase : base ≤ b) : Own E (w.alloc (.cells #[] e)) base e (.slice (some ⟨b, 0, none⟩) 0 0) [] := by
  subst hb
  exact ⟨by simp, .inr ⟨w.heap.size, 0, #[], rfl, hbase, heap_alloc_new w _, Nat.le_refl _, Nat.zero_le _, by simp, by simp⟩⟩

/-- append of one element to a row of the call's own. -/
theorem wpList_app {α : Type} (E : Enc α) {P : Program} {t e : TypeId} {z : Value} {bytes : Nat} (T : ElemT P t e z E.size bytes) {ops : Array Oper} {rest : List Oper} {o : Oper} {a : Act} {Q : Exit → Act → World → Prop}
    (hgd : o.guard = none) (s x : Operand) (ho : o.op = .call { callee := .builtin .append, args := #[s, x], argTypes := #[t, t] })
    (base : Nat) (w : World) (v : Value) (l : List α) (hs : a.eval s = v) (hown : Own E w base e v l)
    (y : α) (cs : Array Value) (e' : TypeId) (hcs : cs = (E.cells y).toArray) (b : Nat) (hb : b = w.heap.size) (hx : a.eval x = .slice (some ⟨b, 0, none⟩) 1 1)
    (hlen : (l.length + 1) * bytes ≤ 140737488355328) (hl : l.length ≤ 1000000000) (hbase : base ≤ w.heap.size)
    (h : ∀ g c w', Own E w' base e (.slice (some ⟨g, 0, none⟩) (l.length + 1) c) (l ++ [y]) → Below base w w' → wpList P ops Q rest (a.put o.dst (.slice (some ⟨g, 0, none⟩) (l.length + 1) c)) w') : wpList P ops Q (o :: rest) a (w.alloc (.cells cs e')) := by
  subst hb
  obtain ⟨i0, hi, hz0, hz1, hz2⟩ := info_parts T.info
  have hnews := cells_new w cs e'
  subst hcs
  refine wpList_append_own _ hgd s x t ho base e i0 z E.size bytes T.under hi hz0 hz1 hz2 T.zs T.pos v l.length (l.flatMap E.cells) hs (World.ownsRow.alloc hown _) ⟨w.heap.size, 0, none⟩ 1 1 (E.cells y) hx (by simp [E.len]) (by simpa using hnews) (E.one y) (by unfold maxLen; omega) hlen (by simp; omega) ?_
  intro v' w' hown' hg _
  have hown'' : Own E w' base e v' (l ++ [y]) := by unfold Own; simpa using hown'
  obtain ⟨g, c, rfl⟩ := hown''.cons
  refine h g c w' hown'' ?_
  · refine (((Below.refl base w).alloc hbase _).grown hg (by simp; omega) ?_)
    intro k hk
    exact (World.ownsRow.lt hown k hk).1

theorem below_cells {q : Nat} {W w1 : World} (hb : Below q W w1) : ∀ b o, b < q → w1.cell? ⟨b, o, none⟩ = W.cell? ⟨b, o, none⟩ := fun b o h => hb.cell (p := ⟨b, o, none⟩) h

def intE : Enc Int := ⟨1, fun x => [.int .i64 x], fun _ => rfl, fun _ u hu => by simp at hu; subst hu; rfl⟩

theorem mul_bd {a b A B : Int} (h1 : 0 ≤ a) (h2 : a ≤ A) (h3 : 0 ≤ b) (h4 : b ≤ B) : 0 ≤ a * b ∧ a * b ≤ A * B :=
  ⟨Int.mul_nonneg h1 h3, Int.mul_le_mul h2 h4 h3 (by omega)⟩
theorem div_bd {a s A : Int} (h1 : 0 ≤ a) (h2 : a ≤ A) (h3 : 1 ≤ s) : 0 ≤ a / s ∧ a / s ≤ A :=
  ⟨Int.ediv_nonneg h1 (by omega), Int.le_trans (Int.ediv_le_self _ h1) h2⟩
theorem tdiv_in {a s : Int} (h1 : 0 ≤ a) (h2 : a ≤ 9223372036854775807) (h3 : 1 ≤ s) : IntKind.i64.wrap (a.tdiv s) = a / s := by
  rw [Int.tdiv_eq_ediv_of_nonneg h1]
  have := div_bd h1 h2 h3
  exact IntWalk.i64_in _ (by omega)
theorem tmod_in {a s : Int} (h1 : 0 ≤ a) (_h2 : a ≤ 9223372036854775807) (_h3 : 1 ≤ s) : a.tmod s = a % s := Int.tmod_eq_emod_of_nonneg h1
theorem emod_le {a s : Int} (h1 : 0 ≤ a) (h3 : 1 ≤ s) : a % s ≤ a := by
  have e := Int.emod_add_mul_ediv a s
  have := Int.mul_nonneg (show 0 ≤ s by omega) (Int.ediv_nonneg h1 (show 0 ≤ s by omega))
  omega
theorem tmod_in' {a s : Int} (h1 : 0 ≤ a) (h2 : a ≤ 9223372036854775807) (h3 : 1 ≤ s) : IntKind.i64.wrap (a.tmod s) = a % s := by
  rw [Int.tmod_eq_emod_of_nonneg h1]
  have h4 := Int.emod_nonneg a (show s ≠ 0 by omega)
  have h5 := Int.emod_lt_of_pos a (show 0 < s by omega)
  have h6 : a % s ≤ a := by have e := Int.emod_add_mul_ediv a s; have := Int.mul_nonneg (show 0 ≤ s by omega) (Int.ediv_nonneg h1 (show 0 ≤ s by omega)); omega
  exact IntWalk.i64_in _ (by omega)
end Go.Proofs.Ytkonojjillcfiaa

/- Walks of geom's plain functions (between, May, In): what they return, the world grown by new blocks alone. -/
namespace Go.Proofs.Ytkonojjillcfiaa
open Go.RowKit

def betw (n lo hi : Int) : Bool := decide (lo ≤ n) && decide (n ≤ hi)

theorem betw_true {n lo hi : Int} : betw n lo hi = true ↔ lo ≤ n ∧ n ≤ hi := by simp [betw]
theorem betw_false {n lo hi : Int} : betw n lo hi = false ↔ ¬ (lo ≤ n ∧ n ≤ hi) := by rw [← betw_true]; simp

theorem between_any (n lo hi : Int) (w : World) :
    Calls Try.prog 81 #[.int .i64 n, .int .i64 lo, .int .i64 hi] w fun e w' => e = .returned (.bool (betw n lo hi)) ∧ w = w' := by
  unfold betw
  by_cases h1 : lo ≤ n
  · by_cases h2 : n ≤ hi
    · go_enter Try.func81, Try.ntmps81
      go_wp2
      go_ret
      exact ⟨by simp [h1, h2], rfl⟩
    · go_enter Try.func81, Try.ntmps81
      go_wp2
      go_ret
      exact ⟨by simp [h2], rfl⟩
  · go_enter Try.func81, Try.ntmps81
    go_wp2
    go_ret
    exact ⟨by simp; omega, rfl⟩

def mayB (W H : Int) : Bool := betw W 1 256 && betw H 1 256

theorem mayB_true {W H : Int} : mayB W H = true ↔ 1 ≤ W ∧ W ≤ 256 ∧ 1 ≤ H ∧ H ≤ 256 := by simp [mayB, betw, and_assoc]

theorem may_any (W H : Int) (w : World) :
    Calls Try.prog 75 #[.agg #[.int .i64 W, .int .i64 H]] w fun e w' => e = .returned (.bool (mayB W H)) ∧ Ext w w' := by
  go_enter Try.func75, Try.ntmps75
  go_wp2_with (go_at_call 81; refine (between_any _ _ _ _).mono ?_; rintro e w' ⟨rfl, rfl⟩)
  all_goals go_ret
  all_goals exact ⟨by simp [mayB, *], (by (with_reducible (repeat' (first | exact Ext.refl _ | assumption | refine Ext.drew ?_ | refine Ext.drewN ?_ _ | refine Ext.alloc ?_ _ | refine Ext.setCell ?_ ?_ _ | refine Ext.trans ?_ (by assumption)))); all_goals (first | (simp; done) | (simp; omega)))⟩

def inB (W H x y : Int) : Bool := mayB W H && betw x 0 (W - 1) && betw y 0 (H - 1)

theorem inB_true {W H x y : Int} : inB W H x y = true ↔ 1 ≤ W ∧ W ≤ 256 ∧ 1 ≤ H ∧ H ≤ 256 ∧ 0 ≤ x ∧ x < W ∧ 0 ≤ y ∧ y < H := by
  simp only [inB, Bool.and_eq_true, mayB_true, betw_true]; omega

theorem in_any (W H x y : Int) (w : World) :
    Calls Try.prog 61 #[.agg #[.int .i64 W, .int .i64 H], .agg #[.int .i64 x, .int .i64 y]] w fun e w' => e = .returned (.bool (inB W H x y)) ∧ Ext w w' := by
  by_cases hm : mayB W H = true
  · obtain ⟨h1, h2, h3, h4⟩ := mayB_true.1 hm
    go_enter Try.func61, Try.ntmps61
    go_wp2_with (first
      | (go_at_call 75; refine (may_any _ _ _).mono ?_; rintro e w1 ⟨rfl, hb1⟩; obtain ⟨hc1, hf1⟩ := hb1.cells; have hz1 := hb1.size; (repeat (first | rw [World.size_alloc] at hz1 | rw [World.size_drew] at hz1)); have z1_0 : w.heap.size < w1.heap.size := (by omega); have z1_1 : w.heap.size + 1 < w1.heap.size := (by omega))
      | (go_at_call 81; refine (between_any _ _ _ _).mono ?_; rintro e w' ⟨rfl, rfl⟩))
    all_goals go_ret
    all_goals exact ⟨by simp [inB, *], (by (with_reducible (repeat' (first | exact Ext.refl _ | assumption | refine Ext.drew ?_ | refine Ext.drewN ?_ _ | refine Ext.alloc ?_ _ | refine Ext.setCell ?_ ?_ _ | refine Ext.trans ?_ (by assumption)))); all_goals (first | (simp; done) | (simp; omega)))⟩
  · have hm' : mayB W H = false := by simpa using hm
    go_enter Try.func61, Try.ntmps61
    go_wp2_with (first
      | (go_at_call 75; refine (may_any _ _ _).mono ?_; rintro e w1 ⟨rfl, hb1⟩; obtain ⟨hc1, hf1⟩ := hb1.cells; have hz1 := hb1.size; (repeat (first | rw [World.size_alloc] at hz1 | rw [World.size_drew] at hz1)); have z1_0 : w.heap.size < w1.heap.size := (by omega); have z1_1 : w.heap.size + 1 < w1.heap.size := (by omega)))
    all_goals go_ret
    all_goals exact ⟨by simp [inB, *], (by (with_reducible (repeat' (first | exact Ext.refl _ | assumption | refine Ext.drew ?_ | refine Ext.drewN ?_ _ | refine Ext.alloc ?_ _ | refine Ext.setCell ?_ ?_ _ | refine Ext.trans ?_ (by assumption)))); all_goals (first | (simp; done) | (simp; omega)))⟩
end Go.Proofs.Ytkonojjillcfiaa

/- Walks of part's plain functions: right, across, Count, Of, New, box. -/
namespace Go.Proofs.Ytkonojjillcfiaa
open Go.RowKit

def rightB (W H s : Int) : Bool := mayB W H && decide (2 ≤ s) && decide (s ≤ 16)

theorem rightB_true {W H s : Int} : rightB W H s = true ↔ 1 ≤ W ∧ W ≤ 256 ∧ 1 ≤ H ∧ H ≤ 256 ∧ 2 ≤ s ∧ s ≤ 16 := by
  simp only [rightB, Bool.and_eq_true, mayB_true, decide_eq_true_eq]; omega

theorem right_any (W H s : Int) (w : World) :
    Calls Try.prog 60 #[.agg #[.int .i64 W, .int .i64 H, .int .i64 s]] w fun e w' => e = .returned (.bool (rightB W H s)) ∧ Ext w w' := by
  by_cases hm : mayB W H = true
  · by_cases hs : 2 ≤ s
    · go_enter Try.func60, Try.ntmps60
      go_wp2_with (go_at_call 75; refine (may_any _ _ _).mono ?_; rintro e w1 ⟨rfl, hb1⟩; obtain ⟨hc1, hf1⟩ := hb1.cells; have hz1 := hb1.size; (repeat (first | rw [World.size_alloc] at hz1 | rw [World.size_drew] at hz1)); have z1_0 : w.heap.size < w1.heap.size := (by omega))
      all_goals go_ret
      all_goals exact ⟨by simp [rightB, *], (by (with_reducible (repeat' (first | exact Ext.refl _ | assumption | refine Ext.drew ?_ | refine Ext.drewN ?_ _ | refine Ext.alloc ?_ _ | refine Ext.setCell ?_ ?_ _ | refine Ext.trans ?_ (by assumption)))); all_goals (first | (simp; done) | (simp; omega)))⟩
    · go_enter Try.func60, Try.ntmps60
      go_wp2_with (go_at_call 75; refine (may_any _ _ _).mono ?_; rintro e w1 ⟨rfl, hb1⟩; obtain ⟨hc1, hf1⟩ := hb1.cells; have hz1 := hb1.size; (repeat (first | rw [World.size_alloc] at hz1 | rw [World.size_drew] at hz1)); have z1_0 : w.heap.size < w1.heap.size := (by omega))
      all_goals go_ret
      all_goals exact ⟨by simp [rightB]; omega, (by (with_reducible (repeat' (first | exact Ext.refl _ | assumption | refine Ext.drew ?_ | refine Ext.drewN ?_ _ | refine Ext.alloc ?_ _ | refine Ext.setCell ?_ ?_ _ | refine Ext.trans ?_ (by assumption)))); all_goals (first | (simp; done) | (simp; omega)))⟩
  · have hm' : mayB W H = false := by simpa using hm
    go_enter Try.func60, Try.ntmps60
    go_wp2_with (go_at_call 75; refine (may_any _ _ _).mono ?_; rintro e w1 ⟨rfl, hb1⟩; obtain ⟨hc1, hf1⟩ := hb1.cells; have hz1 := hb1.size; (repeat (first | rw [World.size_alloc] at hz1 | rw [World.size_drew] at hz1)); have z1_0 : w.heap.size < w1.heap.size := (by omega))
    all_goals go_ret
    all_goals exact ⟨by simp [rightB, hm'], (by (with_reducible (repeat' (first | exact Ext.refl _ | assumption | refine Ext.drew ?_ | refine Ext.drewN ?_ _ | refine Ext.alloc ?_ _ | refine Ext.setCell ?_ ?_ _ | refine Ext.trans ?_ (by assumption)))); all_goals (first | (simp; done) | (simp; omega)))⟩

def acr (n s : Int) : Int := (n + s - 1) / s

theorem across_any (W H s n : Int) (w : World) (h1 : 2 ≤ s) (h2 : s ≤ 16) (h3 : 0 ≤ n) (h4 : n ≤ 1000) :
    Calls Try.prog 62 #[.agg #[.int .i64 W, .int .i64 H, .int .i64 s], .int .i64 n] w fun e w' => e = .returned (.int .i64 (acr n s)) ∧ Ext w w' := by
  unfold acr
  go_enter Try.func62, Try.ntmps62
  go_wp2
  go_ret
  exact ⟨rfl, (by (with_reducible (repeat' (first | exact Ext.refl _ | assumption | refine Ext.drew ?_ | refine Ext.drewN ?_ _ | refine Ext.alloc ?_ _ | refine Ext.setCell ?_ ?_ _ | refine Ext.trans ?_ (by assumption)))); all_goals (first | (simp; done) | (simp; omega)))⟩

theorem acr_bd (n s : Int) (h1 : 2 ≤ s) (h2 : s ≤ 16) (h3 : 1 ≤ n) (h4 : n ≤ 256) : 1 ≤ acr n s ∧ acr n s ≤ 256 := by
  unfold acr
  constructor
  · exact Int.le_ediv_of_mul_le (by omega) (by omega)
  · exact Int.ediv_le_of_le_mul (by omega) (by have : 2 * 256 ≤ s * 256 := by omega
                                               omega)

def cnt (W H s : Int) : Int := acr W s * acr H s

theorem cnt_bd {W H s : Int} (hr : rightB W H s = true) : 1 ≤ cnt W H s ∧ cnt W H s ≤ 65536 := by
  obtain ⟨h1, h2, h3, h4, h5, h6⟩ := rightB_true.1 hr
  have b1 := acr_bd W s h5 h6 h1 h2
  have b2 := acr_bd H s h5 h6 h3 h4
  unfold cnt
  generalize acr W s = a at *
  generalize acr H s = b at *
  constructor
  · have : 1 * 1 ≤ a * b := Int.mul_le_mul b1.1 b2.1 (by omega) (by omega)
    omega
  · have : a * b ≤ 256 * 256 := Int.mul_le_mul b1.2 b2.2 (by omega) (by omega)
    omega

theorem count_yes (W H s : Int) (w : World) (hr : rightB W H s = true) :
    Calls Try.prog 78 #[.agg #[.int .i64 W, .int .i64 H, .int .i64 s]] w fun e w' => e = .returned (.int .i64 (cnt W H s)) ∧ Ext w w' := by
  obtain ⟨h1, h2, h3, h4, h5, h6⟩ := rightB_true.1 hr
  have b0 := cnt_bd hr
  unfold cnt at b0 ⊢
  have b1 : IntKind.i64.wrap (acr W s * acr H s) = acr W s * acr H s := IntWalk.i64_in _ (by omega)
  go_enter Try.func78, Try.ntmps78
  go_wp2_with (go_at_call 60; refine (right_any _ _ _ _).mono ?_; rintro e w1 ⟨rfl, hb1⟩; obtain ⟨hc1, hf1⟩ := hb1.cells; have hz1 := hb1.size; (repeat (first | rw [World.size_alloc] at hz1 | rw [World.size_drew] at hz1)); have z1_0 : w.heap.size < w1.heap.size := (by omega))
  go_region_held3 (fun W => (∀ b o, b < w1.heap.size → W.cell? ⟨b, o, none⟩ = w1.cell? ⟨b, o, none⟩) ∧ Ext w1 W) (first | with_reducible exact pr_start _ | exact pr_of (by (with_reducible (repeat' (first | exact Ext.refl _ | assumption | refine Ext.drew ?_ | refine Ext.drewN ?_ _ | refine Ext.alloc ?_ _ | refine Ext.setCell ?_ ?_ _ | refine Ext.trans ?_ (by assumption)))); all_goals (first | (simp; done) | (simp; omega))))
    (first | (go_at_call 62; refine (across_any _ _ _ _ _ (by omega) (by omega) (by omega) (by omega)).mono ?_; rintro e w2 ⟨rfl, hb2⟩))
  go_wp2
  go_ret
  exact ⟨rfl, (by (with_reducible (repeat' (first | exact Ext.refl _ | assumption | refine Ext.drew ?_ | refine Ext.drewN ?_ _ | refine Ext.alloc ?_ _ | refine Ext.setCell ?_ ?_ _ | refine Ext.trans ?_ (by assumption)))); all_goals (first | (simp; done) | (simp; omega)))⟩

theorem count_no (W H s : Int) (w : World) (hr : rightB W H s = false) :
    Calls Try.prog 78 #[.agg #[.int .i64 W, .int .i64 H, .int .i64 s]] w fun e w' => e = .returned (.int .i64 0) ∧ Ext w w' := by
  go_enter Try.func78, Try.ntmps78
  go_wp2_with (go_at_call 60; refine (right_any _ _ _ _).mono ?_; rintro e w1 ⟨rfl, hb1⟩; obtain ⟨hc1, hf1⟩ := hb1.cells; have hz1 := hb1.size; (repeat (first | rw [World.size_alloc] at hz1 | rw [World.size_drew] at hz1)); have z1_0 : w.heap.size < w1.heap.size := (by omega))
  go_ret
  exact ⟨rfl, (by (with_reducible (repeat' (first | exact Ext.refl _ | assumption | refine Ext.drew ?_ | refine Ext.drewN ?_ _ | refine Ext.alloc ?_ _ | refine Ext.setCell ?_ ?_ _ | refine Ext.trans ?_ (by assumption)))); all_goals (first | (simp; done) | (simp; omega)))⟩

def ofN (W s x y : Int) : Int := y / s * acr W s + x / s

theorem of_yes (W H s x y : Int) (w : World) (hr : rightB W H s = true) (hi : inB W H x y = true) :
    Calls Try.prog 25 #[.agg #[.int .i64 W, .int .i64 H, .int .i64 s], .agg #[.int .i64 x, .int .i64 y]] w fun e w' => e = .returned (.tuple #[.int .i64 (ofN W s x y), .int .i64 0]) ∧ Ext w w' := by
  obtain ⟨h1, h2, h3, h4, h5, h6⟩ := rightB_true.1 hr
  obtain ⟨_, _, _, _, i1, i2, i3, i4⟩ := inB_true.1 hi
  have b1 := acr_bd W s h5 h6 h1 h2
  have b2 := div_bd (a := y) (s := s) (A := 256) i3 (by omega) (by omega)
  have b3 := div_bd (a := x) (s := s) (A := 256) i1 (by omega) (by omega)
  have b4 := mul_bd (a := y / s) (b := acr W s) (A := 256) (B := 256) b2.1 b2.2 (by omega) b1.2
  unfold ofN
  have k1 : IntKind.i64.wrap (y / s * acr W s) = y / s * acr W s := IntWalk.i64_in _ (by omega)
  have k2 : IntKind.i64.wrap (y / s * acr W s + x / s) = y / s * acr W s + x / s := IntWalk.i64_in _ (by omega)
  have k3 : IntKind.i64.wrap (y.tdiv s) = y / s := tdiv_in i3 (by omega) (by omega)
  have k4 : IntKind.i64.wrap (x.tdiv s) = x / s := tdiv_in i1 (by omega) (by omega)
  have hs0 : ¬ s = 0 := by omega
  go_enter Try.func25, Try.ntmps25
  go_wp2_with (first
   | (go_at_call 60; refine (right_any _ _ _ _).mono ?_; rintro e w1 ⟨rfl, hb1⟩; obtain ⟨hc1, hf1⟩ := hb1.cells; have hz1 := hb1.size; (repeat (first | rw [World.size_alloc] at hz1 | rw [World.size_drew] at hz1)); have z1_0 : w.heap.size < w1.heap.size := (by omega); have z1_1 : w.heap.size + 1 < w1.heap.size := (by omega))
   | (go_at_call 61; refine (in_any _ _ _ _ _).mono ?_; rintro e w2 ⟨rfl, hb2⟩; obtain ⟨hc2, hf2⟩ := hb2.cells; have hz2 := hb2.size; (repeat (first | rw [World.size_alloc] at hz2 | rw [World.size_drew] at hz2)); have z2_0 : w.heap.size < w2.heap.size := (by omega); have z2_1 : w.heap.size + 1 < w2.heap.size := (by omega)))
  go_region_held3 (fun W => (∀ b o, b < w2.heap.size → W.cell? ⟨b, o, none⟩ = w2.cell? ⟨b, o, none⟩) ∧ Ext w2 W) (first | with_reducible exact pr_start _ | exact pr_of (by (with_reducible (repeat' (first | exact Ext.refl _ | assumption | refine Ext.drew ?_ | refine Ext.drewN ?_ _ | refine Ext.alloc ?_ _ | refine Ext.setCell ?_ ?_ _ | refine Ext.trans ?_ (by assumption)))); all_goals (first | (simp; done) | (simp; omega))))
    (first | (go_at_call 62; refine (across_any _ _ _ _ _ (by omega) (by omega) (by omega) (by omega)).mono ?_; rintro e w3 ⟨rfl, hb3⟩))
  all_goals go_wp2
  all_goals go_ret2
  all_goals exact ⟨rfl, (by (with_reducible (repeat' (first | exact Ext.refl _ | assumption | refine Ext.drew ?_ | refine Ext.drewN ?_ _ | refine Ext.alloc ?_ _ | refine Ext.setCell ?_ ?_ _ | refine Ext.trans ?_ (by assumption)))); all_goals (first | (simp; done) | (simp; omega)))⟩
theorem of_arg (W H s x y : Int) (w : World) (hr : rightB W H s = false) :
    Calls Try.prog 25 #[.agg #[.int .i64 W, .int .i64 H, .int .i64 s], .agg #[.int .i64 x, .int .i64 y]] w fun e w' => e = .returned (.tuple #[.int .i64 0, .int .i64 1]) ∧ Ext w w' := by
  go_enter Try.func25, Try.ntmps25
  go_wp2_with (first
   | (go_at_call 60; refine (right_any _ _ _ _).mono ?_; rintro e w1 ⟨rfl, hb1⟩; obtain ⟨hc1, hf1⟩ := hb1.cells; have hz1 := hb1.size; (repeat (first | rw [World.size_alloc] at hz1 | rw [World.size_drew] at hz1)); have z1_0 : w.heap.size < w1.heap.size := (by omega); have z1_1 : w.heap.size + 1 < w1.heap.size := (by omega)))
  go_ret2
  exact ⟨rfl, (by (with_reducible (repeat' (first | exact Ext.refl _ | assumption | refine Ext.drew ?_ | refine Ext.drewN ?_ _ | refine Ext.alloc ?_ _ | refine Ext.setCell ?_ ?_ _ | refine Ext.trans ?_ (by assumption)))); all_goals (first | (simp; done) | (simp; omega)))⟩
theorem of_range (W H s x y : Int) (w : World) (hr : rightB W H s = true) (hi : inB W H x y = false) :
    Calls Try.prog 25 #[.agg #[.int .i64 W, .int .i64 H, .int .i64 s], .agg #[.int .i64 x, .int .i64 y]] w fun e w' => e = .returned (.tuple #[.int .i64 0, .int .i64 10]) ∧ Ext w w' := by
  go_enter Try.func25, Try.ntmps25
  go_wp2_with (first
   | (go_at_call 60; refine (right_any _ _ _ _).mono ?_; rintro e w1 ⟨rfl, hb1⟩; obtain ⟨hc1, hf1⟩ := hb1.cells; have hz1 := hb1.size; (repeat (first | rw [World.size_alloc] at hz1 | rw [World.size_drew] at hz1)); have z1_0 : w.heap.size < w1.heap.size := (by omega); have z1_1 : w.heap.size + 1 < w1.heap.size := (by omega))
   | (go_at_call 61; refine (in_any _ _ _ _ _).mono ?_; rintro e w2 ⟨rfl, hb2⟩; obtain ⟨hc2, hf2⟩ := hb2.cells; have hz2 := hb2.size; (repeat (first | rw [World.size_alloc] at hz2 | rw [World.size_drew] at hz2)); have z2_0 : w.heap.size < w2.heap.size := (by omega); have z2_1 : w.heap.size + 1 < w2.heap.size := (by omega)))
  go_ret2
  exact ⟨rfl, (by (with_reducible (repeat' (first | exact Ext.refl _ | assumption | refine Ext.drew ?_ | refine Ext.drewN ?_ _ | refine Ext.alloc ?_ _ | refine Ext.setCell ?_ ?_ _ | refine Ext.trans ?_ (by assumption)))); all_goals (first | (simp; done) | (simp; omega)))⟩

def boxX (W s id : Int) : Int := id % acr W s * s
def boxY (W s id : Int) : Int := id / acr W s * s

theorem box_yes (W H s id : Int) (w : World) (hr : rightB W H s = true) (h0 : 0 ≤ id) (hid : id < cnt W H s) :
    Calls Try.prog 59 #[.agg #[.int .i64 W, .int .i64 H, .int .i64 s], .int .i64 id] w fun e w' =>
      e = .returned (.agg #[.int .i64 (boxX W s id), .int .i64 (boxY W s id), .int .i64 (min s (W - boxX W s id)), .int .i64 (min s (H - boxY W s id))]) ∧ Ext w w' := by
  obtain ⟨h1, h2, h3, h4, h5, h6⟩ := rightB_true.1 hr
  have b0 := cnt_bd hr
  have b1 := acr_bd W s h5 h6 h1 h2
  unfold boxX boxY
  have b2 := div_bd (a := id) (s := acr W s) (A := 65536) h0 (by omega) (by omega)
  have b3 : 0 ≤ id % acr W s ∧ id % acr W s ≤ 65536 := ⟨Int.emod_nonneg _ (by omega), Int.le_trans (emod_le h0 (by omega)) (by omega)⟩
  have b4 := mul_bd (a := id % acr W s) (b := s) (A := 65536) (B := 16) b3.1 b3.2 (by omega) (by omega)
  have b5 := mul_bd (a := id / acr W s) (b := s) (A := 65536) (B := 16) b2.1 b2.2 (by omega) (by omega)
  have k1 : IntKind.i64.wrap (id.tdiv (acr W s)) = id / acr W s := tdiv_in h0 (by omega) (by omega)
  have k2 : id.tmod (acr W s) = id % acr W s := tmod_in h0 (by omega) (by omega)
  have k3 : IntKind.i64.wrap (id / acr W s * s) = id / acr W s * s := IntWalk.i64_in _ (by omega)
  have k4 : IntKind.i64.wrap (id % acr W s * s) = id % acr W s * s := IntWalk.i64_in _ (by omega)
  have k5 : IntKind.i64.wrap (id % acr W s) = id % acr W s := IntWalk.i64_in _ (by omega)
  have hs0 : ¬ acr W s = 0 := by omega
  go_enter Try.func59, Try.ntmps59
  go_wp2_with (first
   | (go_at_call 62; refine (across_any _ _ _ _ _ (by omega) (by omega) (by omega) (by omega)).mono ?_; rintro e w1 ⟨rfl, hb1⟩; obtain ⟨hc1, hf1⟩ := hb1.cells; have hz1 := hb1.size; (repeat (first | rw [World.size_alloc] at hz1 | rw [World.size_drew] at hz1)); have z1_0 : w.heap.size < w1.heap.size := (by omega); have z1_1 : w.heap.size + 1 < w1.heap.size := (by omega)))
  go_region_held3 (fun W => (∀ b o, b < w1.heap.size → W.cell? ⟨b, o, none⟩ = w1.cell? ⟨b, o, none⟩) ∧ Ext w1 W) (first | with_reducible exact pr_start _ | exact pr_of (by (with_reducible (repeat' (first | exact Ext.refl _ | assumption | refine Ext.drew ?_ | refine Ext.drewN ?_ _ | refine Ext.alloc ?_ _ | refine Ext.setCell ?_ ?_ _ | refine Ext.trans ?_ (by assumption)))); all_goals (first | (simp; done) | (simp; omega))))
    (fail)
  go_wp2
  all_goals
    refine bodyPost_ret (v := .agg #[.int .i64 (id % acr W s * s), .int .i64 (id / acr W s * s), .int .i64 (min s (W - id % acr W s * s)), .int .i64 (min s (H - id / acr W s * s))]) ?_ rfl ⟨rfl, (by (with_reducible (repeat' (first | exact Ext.refl _ | assumption | refine Ext.drew ?_ | refine Ext.drewN ?_ _ | refine Ext.alloc ?_ _ | refine Ext.setCell ?_ ?_ _ | refine Ext.trans ?_ (by assumption)))); all_goals (first | (simp; done) | (simp; omega)))⟩
    simp [results, Try.results59, go_sem, *]
    try omega
end Go.Proofs.Ytkonojjillcfiaa

/- Walks of the references' plain functions: Right, Has, Step, Fits. -/
namespace Go.Proofs.Ytkonojjillcfiaa
open Go.RowKit

theorem rRight_any (W H s : Int) (w : World) :
    Calls Try.prog 53 #[.agg #[.int .i64 W, .int .i64 H], .int .i64 s] w fun e w' => e = .returned (.bool (rightB W H s)) ∧ Ext w w' := by
  go_enter Try.func53, Try.ntmps53
  go_wp2
  all_goals go_ret
  all_goals exact ⟨by simp [rightB, mayB, betw] <;> omega, (by (with_reducible (repeat' (first | exact Ext.refl _ | assumption | refine Ext.drew ?_ | refine Ext.drewN ?_ _ | refine Ext.alloc ?_ _ | refine Ext.setCell ?_ ?_ _ | refine Ext.trans ?_ (by assumption)))); all_goals (first | (simp; done) | (simp; omega)))⟩

def hasB (bx byy bw bh x y : Int) : Bool := decide (bx ≤ x) && decide (byy ≤ y) && decide (x - bx < bw) && decide (y - byy < bh)

theorem hasB_true {bx byy bw bh x y : Int} : hasB bx byy bw bh x y = true ↔ bx ≤ x ∧ x < bx + bw ∧ byy ≤ y ∧ y < byy + bh := by
  simp only [hasB, Bool.and_eq_true, decide_eq_true_eq]; omega

def InI (x : Int) : Prop := -9223372036854775808 ≤ x ∧ x ≤ 9223372036854775807

set_option maxHeartbeats 1000000 in
theorem rHas_any (bx byy bw bh x y : Int) (w : World) (h1 : 0 ≤ bx) (h2 : 0 ≤ byy) (hx : InI x) (hy : InI y) :
    Calls Try.prog 41 #[.agg #[.int .i64 bx, .int .i64 byy, .int .i64 bw, .int .i64 bh], .agg #[.int .i64 x, .int .i64 y]] w fun e w' => e = .returned (.bool (hasB bx byy bw bh x y)) ∧ Ext w w' := by
  unfold InI at hx hy
  go_enter Try.func41, Try.ntmps41
  go_wp2
  all_goals go_ret
  all_goals exact ⟨by simp [hasB] <;> omega, (by (with_reducible (repeat' (first | exact Ext.refl _ | assumption | refine Ext.drew ?_ | refine Ext.drewN ?_ _ | refine Ext.alloc ?_ _ | refine Ext.setCell ?_ ?_ _ | refine Ext.trans ?_ (by assumption)))); all_goals (first | (simp; done) | (simp; omega)))⟩

def fitsR (W H bx byy bw bh : Int) : Bool :=
  decide (0 ≤ bx) && decide (0 ≤ byy) && decide (1 ≤ bw) && decide (1 ≤ bh) && decide (bx < W) && decide (byy < H) && decide (bw ≤ W - bx) && decide (bh ≤ H - byy)

set_option maxHeartbeats 1000000 in
theorem rFits_any (W H bx byy bw bh : Int) (w : World) (h1 : InI W) (h2 : InI H) :
    Calls Try.prog 44 #[.agg #[.int .i64 W, .int .i64 H], .agg #[.int .i64 bx, .int .i64 byy, .int .i64 bw, .int .i64 bh]] w fun e w' => e = .returned (.bool (fitsR W H bx byy bw bh)) ∧ Ext w w' := by
  unfold InI at h1 h2
  go_enter Try.func44, Try.ntmps44
  go_wp2
  all_goals go_ret
  all_goals exact ⟨by simp [fitsR] <;> omega, (by (with_reducible (repeat' (first | exact Ext.refl _ | assumption | refine Ext.drew ?_ | refine Ext.drewN ?_ _ | refine Ext.alloc ?_ _ | refine Ext.setCell ?_ ?_ _ | refine Ext.trans ?_ (by assumption)))); all_goals (first | (simp; done) | (simp; omega)))⟩

def stepX (x dir : Int) : Int := if dir = 1 then x + 1 else if dir = 3 then x - 1 else x
def stepY (y dir : Int) : Int := if dir = 0 then y - 1 else if dir = 2 then y + 1 else y

set_option maxHeartbeats 1000000 in
theorem rStep_any (x y dir : Int) (w : World) (hx : -4611686018427387904 ≤ x ∧ x ≤ 4611686018427387904) (hy : -4611686018427387904 ≤ y ∧ y ≤ 4611686018427387904) :
    Calls Try.prog 47 #[.agg #[.int .i64 x, .int .i64 y], .int .i64 dir] w fun e w' => e = .returned (.agg #[.int .i64 (stepX x dir), .int .i64 (stepY y dir)]) ∧ Ext w w' := by
  by_cases d0 : dir = 0
  · subst d0
    go_enter Try.func47, Try.ntmps47
    go_wp2
    exact bodyPost_ret (v := .agg #[.int .i64 x, .int .i64 (y - 1)]) (by simp [results, Try.results47, go_sem, *]) rfl ⟨rfl, (by (with_reducible (repeat' (first | exact Ext.refl _ | assumption | refine Ext.drew ?_ | refine Ext.drewN ?_ _ | refine Ext.alloc ?_ _ | refine Ext.setCell ?_ ?_ _ | refine Ext.trans ?_ (by assumption)))); all_goals (first | (simp; done) | (simp; omega)))⟩
  · by_cases d1 : dir = 1
    · subst d1
      go_enter Try.func47, Try.ntmps47
      go_wp2
      exact bodyPost_ret (v := .agg #[.int .i64 (x + 1), .int .i64 y]) (by simp [results, Try.results47, go_sem, *]) rfl ⟨rfl, (by (with_reducible (repeat' (first | exact Ext.refl _ | assumption | refine Ext.drew ?_ | refine Ext.drewN ?_ _ | refine Ext.alloc ?_ _ | refine Ext.setCell ?_ ?_ _ | refine Ext.trans ?_ (by assumption)))); all_goals (first | (simp; done) | (simp; omega)))⟩
    · by_cases d2 : dir = 2
      · subst d2
        go_enter Try.func47, Try.ntmps47
        go_wp2
        exact bodyPost_ret (v := .agg #[.int .i64 x, .int .i64 (y + 1)]) (by simp [results, Try.results47, go_sem, *]) rfl ⟨rfl, (by (with_reducible (repeat' (first | exact Ext.refl _ | assumption | refine Ext.drew ?_ | refine Ext.drewN ?_ _ | refine Ext.alloc ?_ _ | refine Ext.setCell ?_ ?_ _ | refine Ext.trans ?_ (by assumption)))); all_goals (first | (simp; done) | (simp; omega)))⟩
      · by_cases d3 : dir = 3
        · subst d3
          go_enter Try.func47, Try.ntmps47
          go_wp2
          exact bodyPost_ret (v := .agg #[.int .i64 (x - 1), .int .i64 y]) (by simp [results, Try.results47, go_sem, *]) rfl ⟨rfl, (by (with_reducible (repeat' (first | exact Ext.refl _ | assumption | refine Ext.drew ?_ | refine Ext.drewN ?_ _ | refine Ext.alloc ?_ _ | refine Ext.setCell ?_ ?_ _ | refine Ext.trans ?_ (by assumption)))); all_goals (first | (simp; done) | (simp; omega)))⟩
        · have e1 : stepX x dir = x := by unfold stepX; rw [if_neg d1, if_neg d3]
          have e2 : stepY y dir = y := by unfold stepY; rw [if_neg d0, if_neg d2]
          rw [e1, e2]
          clear e1 e2
          go_enter Try.func47, Try.ntmps47
          go_wp2
          exact bodyPost_ret (v := .agg #[.int .i64 x, .int .i64 y]) (by simp [results, Try.results47, go_sem, *]) rfl ⟨rfl, (by (with_reducible (repeat' (first | exact Ext.refl _ | assumption | refine Ext.drew ?_ | refine Ext.drewN ?_ _ | refine Ext.alloc ?_ _ | refine Ext.setCell ?_ ?_ _ | refine Ext.trans ?_ (by assumption)))); all_goals (first | (simp; done) | (simp; omega)))⟩

def smallB (W H s : Int) : Bool := rightB W H s && decide (W * H ≤ 400)
theorem smallB_true {W H s : Int} : smallB W H s = true ↔ rightB W H s = true ∧ W * H ≤ 400 := by simp [smallB]
end Go.Proofs.Ytkonojjillcfiaa

/- Walks of geom's boxes: simple, right, Has, Fits. -/
namespace Go.Proofs.Ytkonojjillcfiaa
open Go.RowKit

def simpleB (x y : Int) : Bool := betw x (-1048576) 1048576 && betw y (-1048576) 1048576
theorem simple_any (x y : Int) (w : World) : Calls Try.prog 111 #[.agg #[.int .i64 x, .int .i64 y]] w fun e w' => e = .returned (.bool (simpleB x y)) ∧ Ext w w' := by
  go_enter Try.func111, Try.ntmps111
  go_wp2_with (go_at_call 81; refine (between_any _ _ _ _).mono ?_; rintro e w' ⟨rfl, rfl⟩)
  all_goals go_ret
  all_goals exact ⟨by simp [simpleB, *], (by (with_reducible (repeat' (first | exact Ext.refl _ | assumption | refine Ext.drew ?_ | refine Ext.drewN ?_ _ | refine Ext.alloc ?_ _ | refine Ext.setCell ?_ ?_ _ | refine Ext.trans ?_ (by assumption)))); all_goals (first | (simp; done) | (simp; omega)))⟩

def rightG (bx byy bw bh : Int) : Bool := betw bw 0 256 && betw bh 0 256 && simpleB bx byy
theorem rightG_true {bx byy bw bh : Int} : rightG bx byy bw bh = true ↔ 0 ≤ bw ∧ bw ≤ 256 ∧ 0 ≤ bh ∧ bh ≤ 256 ∧ -1048576 ≤ bx ∧ bx ≤ 1048576 ∧ -1048576 ≤ byy ∧ byy ≤ 1048576 := by
  simp only [rightG, simpleB, Bool.and_eq_true, betw_true]; omega

theorem gRight_any (bx byy bw bh : Int) (w : World) : Calls Try.prog 98 #[.agg #[.int .i64 bx, .int .i64 byy, .int .i64 bw, .int .i64 bh]] w fun e w' => e = .returned (.bool (rightG bx byy bw bh)) ∧ Ext w w' := by
  go_enter Try.func98, Try.ntmps98
  go_wp2_with (first
    | (go_at_call 81; refine (between_any _ _ _ _).mono ?_; rintro e w' ⟨rfl, rfl⟩)
    | (go_at_call 111; refine (simple_any _ _ _).mono ?_; rintro e w1 ⟨rfl, hb1⟩; obtain ⟨hc1, hf1⟩ := hb1.cells; have hz1 := hb1.size; (repeat (first | rw [World.size_alloc] at hz1 | rw [World.size_drew] at hz1)); have z1_0 : w.heap.size < w1.heap.size := (by omega)))
  all_goals go_ret
  all_goals exact ⟨by simp [rightG, *], (by (with_reducible (repeat' (first | exact Ext.refl _ | assumption | refine Ext.drew ?_ | refine Ext.drewN ?_ _ | refine Ext.alloc ?_ _ | refine Ext.setCell ?_ ?_ _ | refine Ext.trans ?_ (by assumption)))); all_goals (first | (simp; done) | (simp; omega)))⟩

def hasG (bx byy bw bh x y : Int) : Bool := rightG bx byy bw bh && betw x bx (bx + bw - 1) && betw y byy (byy + bh - 1)
theorem gHas_any (bx byy bw bh x y : Int) (w : World) : Calls Try.prog 71 #[.agg #[.int .i64 bx, .int .i64 byy, .int .i64 bw, .int .i64 bh], .agg #[.int .i64 x, .int .i64 y]] w fun e w' => e = .returned (.bool (hasG bx byy bw bh x y)) ∧ Ext w w' := by
  by_cases hr : rightG bx byy bw bh = true
  · obtain ⟨h1, h2, h3, h4, h5, h6, h7, h8⟩ := rightG_true.1 hr
    go_enter Try.func71, Try.ntmps71
    go_wp2_with (first
      | (go_at_call 98; refine (gRight_any _ _ _ _ _).mono ?_; rintro e w1 ⟨rfl, hb1⟩; obtain ⟨hc1, hf1⟩ := hb1.cells; have hz1 := hb1.size; (repeat (first | rw [World.size_alloc] at hz1 | rw [World.size_drew] at hz1)); have z1_0 : w.heap.size < w1.heap.size := (by omega); have z1_1 : w.heap.size + 1 < w1.heap.size := (by omega))
      | (go_at_call 81; refine (between_any _ _ _ _).mono ?_; rintro e w' ⟨rfl, rfl⟩))
    all_goals go_ret
    all_goals exact ⟨by simp [hasG, *], (by (with_reducible (repeat' (first | exact Ext.refl _ | assumption | refine Ext.drew ?_ | refine Ext.drewN ?_ _ | refine Ext.alloc ?_ _ | refine Ext.setCell ?_ ?_ _ | refine Ext.trans ?_ (by assumption)))); all_goals (first | (simp; done) | (simp; omega)))⟩
  · have hr' : rightG bx byy bw bh = false := by simpa using hr
    go_enter Try.func71, Try.ntmps71
    go_wp2_with (first
      | (go_at_call 98; refine (gRight_any _ _ _ _ _).mono ?_; rintro e w1 ⟨rfl, hb1⟩; obtain ⟨hc1, hf1⟩ := hb1.cells; have hz1 := hb1.size; (repeat (first | rw [World.size_alloc] at hz1 | rw [World.size_drew] at hz1)); have z1_0 : w.heap.size < w1.heap.size := (by omega); have z1_1 : w.heap.size + 1 < w1.heap.size := (by omega)))
    all_goals go_ret
    all_goals exact ⟨by simp [hasG, *], (by (with_reducible (repeat' (first | exact Ext.refl _ | assumption | refine Ext.drew ?_ | refine Ext.drewN ?_ _ | refine Ext.alloc ?_ _ | refine Ext.setCell ?_ ?_ _ | refine Ext.trans ?_ (by assumption)))); all_goals (first | (simp; done) | (simp; omega)))⟩

def fitsG (W H bx byy bw bh : Int) : Bool := rightG bx byy bw bh && decide (0 < bw) && decide (0 < bh) && inB W H bx byy && inB W H (bx + bw - 1) (byy + bh - 1)

theorem gFits_any (W H bx byy bw bh : Int) (w : World) : Calls Try.prog 93 #[.agg #[.int .i64 W, .int .i64 H], .agg #[.int .i64 bx, .int .i64 byy, .int .i64 bw, .int .i64 bh]] w fun e w' => e = .returned (.bool (fitsG W H bx byy bw bh)) ∧ Ext w w' := by
  have I1 := hide (fun w' => in_any W H bx byy w')
  have I2 := hide (fun w' => in_any W H (bx + bw - 1) (byy + bh - 1) w')
  cases hr : rightG bx byy bw bh
  · have R1 := hide (fun w' => gRight_any bx byy bw bh w')
    rw [hr] at R1
    rw [show fitsG W H bx byy bw bh = false by simp [fitsG, hr]]
    clear hr
    go_enter Try.func93, Try.ntmps93
    go_wp2_with (go_at_call 98; refine (R1.out _).mono ?_; rintro e w1 ⟨rfl, hb1⟩)
    go_ret
    exact ⟨rfl, (by (with_reducible (repeat' (first | exact Ext.refl _ | assumption | refine Ext.drew ?_ | refine Ext.drewN ?_ _ | refine Ext.alloc ?_ _ | refine Ext.setCell ?_ ?_ _ | refine Ext.trans ?_ (by assumption)))); all_goals (first | (simp; done) | (simp; omega)))⟩
  · obtain ⟨h1, h2, h3, h4, h5, h6, h7, h8⟩ := rightG_true.1 hr
    have R1 := hide (fun w' => gRight_any bx byy bw bh w')
    rw [hr] at R1
    have k1 : IntKind.i64.wrap (bx + bw) = bx + bw := IntWalk.i64_in _ (by omega)
    have k2 : IntKind.i64.wrap (bx + bw - 1) = bx + bw - 1 := IntWalk.i64_in _ (by omega)
    have k3 : IntKind.i64.wrap (byy + bh) = byy + bh := IntWalk.i64_in _ (by omega)
    have k4 : IntKind.i64.wrap (byy + bh - 1) = byy + bh - 1 := IntWalk.i64_in _ (by omega)
    unfold fitsG
    rw [hr]
    by_cases p1 : 0 < bw
    · by_cases p2 : 0 < bh
      · simp only [p1, p2, decide_true, Bool.true_and]
        generalize inB W H bx byy = b1 at *
        generalize inB W H (bx + bw - 1) (byy + bh - 1) = b2 at *
        clear hr h1 h2 h3 h4 h5 h6 h7 h8
        cases b1
        · go_enter Try.func93, Try.ntmps93
          go_wp2_with (go_at_call 98; refine (R1.out _).mono ?_; rintro e w1 ⟨rfl, hb1⟩; obtain ⟨hc1, hf1⟩ := hb1.cells; have hz1 := hb1.size; (repeat (first | rw [World.size_alloc] at hz1 | rw [World.size_drew] at hz1)); have z1_0 : w.heap.size < w1.heap.size := (by omega); have z1_1 : w.heap.size + 1 < w1.heap.size := (by omega))
          refine (I1.out _).mono ?_
          rintro e w2 ⟨rfl, hb2⟩
          obtain ⟨hc2, hf2⟩ := hb2.cells; have hz2 := hb2.size; (repeat (first | rw [World.size_alloc] at hz2 | rw [World.size_drew] at hz2)); have z2_0 : w.heap.size < w2.heap.size := (by omega); have z2_1 : w.heap.size + 1 < w2.heap.size := (by omega)
          go_wp2_with fail
          go_ret
          exact ⟨rfl, (by (with_reducible (repeat' (first | exact Ext.refl _ | assumption | refine Ext.drew ?_ | refine Ext.drewN ?_ _ | refine Ext.alloc ?_ _ | refine Ext.setCell ?_ ?_ _ | refine Ext.trans ?_ (by assumption)))); all_goals (first | (simp; done) | (simp; omega)))⟩
        · go_enter Try.func93, Try.ntmps93
          go_wp2_with (go_at_call 98; refine (R1.out _).mono ?_; rintro e w1 ⟨rfl, hb1⟩; obtain ⟨hc1, hf1⟩ := hb1.cells; have hz1 := hb1.size; (repeat (first | rw [World.size_alloc] at hz1 | rw [World.size_drew] at hz1)); have z1_0 : w.heap.size < w1.heap.size := (by omega); have z1_1 : w.heap.size + 1 < w1.heap.size := (by omega))
          refine (I1.out _).mono ?_
          rintro e w2 ⟨rfl, hb2⟩
          obtain ⟨hc2, hf2⟩ := hb2.cells; have hz2 := hb2.size; (repeat (first | rw [World.size_alloc] at hz2 | rw [World.size_drew] at hz2)); have z2_0 : w.heap.size < w2.heap.size := (by omega); have z2_1 : w.heap.size + 1 < w2.heap.size := (by omega)
          go_wp2_with fail
          refine (I2.out _).mono ?_
          rintro e w3 ⟨rfl, hb3⟩
          obtain ⟨hc3, hf3⟩ := hb3.cells; have hz3 := hb3.size; (repeat (first | rw [World.size_alloc] at hz3 | rw [World.size_drew] at hz3)); have z3_0 : w.heap.size < w3.heap.size := (by omega); have z3_1 : w.heap.size + 1 < w3.heap.size := (by omega)
          go_wp2_with fail
          go_ret
          exact ⟨by simp, (by (with_reducible (repeat' (first | exact Ext.refl _ | assumption | refine Ext.drew ?_ | refine Ext.drewN ?_ _ | refine Ext.alloc ?_ _ | refine Ext.setCell ?_ ?_ _ | refine Ext.trans ?_ (by assumption)))); all_goals (first | (simp; done) | (simp; omega)))⟩
      · rw [show decide (0 < bh) = false by simpa using p2]
        simp only [Bool.and_false, Bool.false_and]
        go_enter Try.func93, Try.ntmps93
        go_wp2_with (go_at_call 98; refine (R1.out _).mono ?_; rintro e w1 ⟨rfl, hb1⟩; obtain ⟨hc1, hf1⟩ := hb1.cells; have hz1 := hb1.size; (repeat (first | rw [World.size_alloc] at hz1 | rw [World.size_drew] at hz1)); have z1_0 : w.heap.size < w1.heap.size := (by omega); have z1_1 : w.heap.size + 1 < w1.heap.size := (by omega))
        go_ret
        exact ⟨rfl, (by (with_reducible (repeat' (first | exact Ext.refl _ | assumption | refine Ext.drew ?_ | refine Ext.drewN ?_ _ | refine Ext.alloc ?_ _ | refine Ext.setCell ?_ ?_ _ | refine Ext.trans ?_ (by assumption)))); all_goals (first | (simp; done) | (simp; omega)))⟩
    · rw [show decide (0 < bw) = false by simpa using p1]
      simp only [Bool.and_false, Bool.false_and]
      go_enter Try.func93, Try.ntmps93
      go_wp2_with (go_at_call 98; refine (R1.out _).mono ?_; rintro e w1 ⟨rfl, hb1⟩; obtain ⟨hc1, hf1⟩ := hb1.cells; have hz1 := hb1.size; (repeat (first | rw [World.size_alloc] at hz1 | rw [World.size_drew] at hz1)); have z1_0 : w.heap.size < w1.heap.size := (by omega); have z1_1 : w.heap.size + 1 < w1.heap.size := (by omega))
      go_ret
      exact ⟨rfl, (by (with_reducible (repeat' (first | exact Ext.refl _ | assumption | refine Ext.drew ?_ | refine Ext.drewN ?_ _ | refine Ext.alloc ?_ _ | refine Ext.setCell ?_ ?_ _ | refine Ext.trans ?_ (by assumption)))); all_goals (first | (simp; done) | (simp; omega)))⟩

theorem fitsG_eq {W H bx byy bw bh : Int} (hm : mayB W H = true) : fitsG W H bx byy bw bh = fitsR W H bx byy bw bh := by
  have := mayB_true.1 hm
  apply Bool.eq_iff_iff.2
  simp only [fitsG, fitsR, Bool.and_eq_true, decide_eq_true_eq, inB_true, rightG_true]
  omega

theorem fitsR_true {W H bx byy bw bh : Int} : fitsR W H bx byy bw bh = true ↔ 0 ≤ bx ∧ 0 ≤ byy ∧ 1 ≤ bw ∧ 1 ≤ bh ∧ bx + bw ≤ W ∧ byy + bh ≤ H := by
  simp only [fitsR, Bool.and_eq_true, decide_eq_true_eq]; omega

theorem hasG_eq {W H bx byy bw bh x y : Int} (hm : mayB W H = true) (hf : fitsR W H bx byy bw bh = true) : hasG bx byy bw bh x y = hasB bx byy bw bh x y := by
  have := mayB_true.1 hm
  have := fitsR_true.1 hf
  apply Bool.eq_iff_iff.2
  rw [hasB_true]
  simp only [hasG, Bool.and_eq_true, betw_true, rightG_true]
  omega
end Go.Proofs.Ytkonojjillcfiaa

/- Words of my own: a world in which of the old blocks only some were written (Touch); blocks that are known whole; rows of numbers of a kind. -/
namespace Go.Proofs.Ytkonojjillcfiaa
open Go.RowKit

/-- Of the blocks of w only those in S may have turned; new ones may have come. -/
structure Touch (S : Nat → Prop) (w w' : World) : Prop where
  os : w'.os = w.os
  tape : w'.tape = w.tape
  output : w'.output = w.output
  size : w.heap.size ≤ w'.heap.size
  block : ∀ k, k < w.heap.size → ¬ S k → w'.heap[k]? = w.heap[k]?

theorem Touch.refl (S : Nat → Prop) (w : World) : Touch S w w := ⟨rfl, rfl, rfl, Nat.le_refl _, fun _ _ _ => rfl⟩
theorem Touch.trans {S : Nat → Prop} {a b c : World} (h : Touch S a b) (k : Touch S b c) : Touch S a c :=
  ⟨k.os.trans h.os, k.tape.trans h.tape, k.output.trans h.output, Nat.le_trans h.size k.size, fun i hi hs => (k.block i (Nat.lt_of_lt_of_le hi h.size) hs).trans (h.block i hi hs)⟩
theorem Touch.mono {S S' : Nat → Prop} {a b : World} (h : Touch S a b) (hs : ∀ k, k < a.heap.size → S k → S' k) : Touch S' a b :=
  ⟨h.os, h.tape, h.output, h.size, fun i hi hn => h.block i hi (fun hS => hn (hs i hi hS))⟩
theorem Touch.of_ext {S : Nat → Prop} {a b : World} (h : Ext a b) : Touch S a b := ⟨h.below.os, h.below.tape, h.below.output, h.size, fun i hi _ => h.below.block i hi⟩
theorem Touch.ext {a b : World} (h : Touch (fun _ => False) a b) : Ext a b := ⟨h.os, h.tape, h.output, h.size, fun i hi => h.block i hi (fun x => x)⟩
theorem Touch.drew {S : Nat → Prop} {a b : World} (h : Touch S a b) : Touch S a b.drew := ⟨h.os, h.tape, h.output, h.size, h.block⟩
theorem Touch.drewN {S : Nat → Prop} {a b : World} (h : Touch S a b) (n : Nat) : Touch S a (b.drewN n) := ⟨h.os, h.tape, h.output, h.size, h.block⟩
theorem Touch.alloc {S : Nat → Prop} {a b : World} (h : Touch S a b) (o : Obj) : Touch S a (b.alloc o) := h.trans (Touch.of_ext ((Ext.refl b).alloc o))
theorem Touch.below {S : Nat → Prop} {a b : World} {B : Nat} (h : Below B a b) (hs : ∀ k, k < a.heap.size → B ≤ k → S k) : Touch S a b :=
  ⟨h.os, h.tape, h.output, h.size, fun i hi hn => h.block i (Nat.lt_of_not_le fun hB => hn (hs i hi hB))⟩
theorem Touch.to_below {S : Nat → Prop} {a b : World} {B : Nat} (h : Touch S a b) (hB : B ≤ a.heap.size) (hs : ∀ k, S k → B ≤ k) : Below B a b :=
  ⟨h.os, h.tape, h.output, h.size, fun i hi => h.block i (Nat.lt_of_lt_of_le hi hB) (fun hS => by have := hs i hS; omega)⟩
theorem Touch.setCell {S : Nat → Prop} {a b : World} (h : Touch S a b) {p : Addr} (hp : S p.block ∨ a.heap.size ≤ p.block) (u : Value) : Touch S a (b.setCell p u) :=
  ⟨h.os, h.tape, h.output, by have := h.size; simp [World.setCell]; exact this, fun i hi hn => (Below.heap_setCell b p u i (fun e => by subst e; rcases hp with hp | hp; exact hn hp; omega)).trans (h.block i hi hn)⟩
theorem Touch.grown {S : Nat → Prop} {a b c : World} {row : Option Nat} (h : Touch S a b) (hg : b.grownBy c row) (hr : ∀ k, row = some k → S k ∨ a.heap.size ≤ k) : Touch S a c :=
  ⟨hg.os.trans h.os, hg.tape.trans h.tape, hg.output.trans h.output, Nat.le_trans h.size hg.size, fun i hi hn => (hg.block i (Nat.lt_of_lt_of_le hi h.size) (fun e => by
    rcases hr i e.symm with hr | hr
    · exact hn hr
    · omega)).trans (h.block i hi hn)⟩
theorem Touch.cell {S : Nat → Prop} {a b : World} (h : Touch S a b) {p : Addr} (hp : p.block < a.heap.size) (hs : ¬ S p.block) : b.cell? p = a.cell? p := World.cell?_of_block (h.block _ hp hs)
theorem Touch.frozen {S : Nat → Prop} {a b : World} (h : Touch S a b) {p : Addr} (hp : p.block < a.heap.size) (hs : ¬ S p.block) : b.frozen? p = a.frozen? p := World.frozen?_of_block (h.block _ hp hs)

theorem own_lt {α : Type} {E : Enc α} {w : World} {base : Nat} {e : TypeId} {v : Value} {l : List α} (h : Own E w base e v l) {k : Nat} (hk : v.ownBlock = some k) : base ≤ k ∧ k < w.heap.size := World.ownsRow.lt h k hk
theorem Own.touch {α : Type} {E : Enc α} {S : Nat → Prop} {w w' : World} {base : Nat} {e : TypeId} {v : Value} {l : List α} (h : Own E w base e v l) (t : Touch S w w') (hs : ∀ k, v.ownBlock = some k → ¬ S k) : Own E w' base e v l := by
  refine ⟨h.1, ?_⟩
  rcases h.2 with hn | ⟨g, cap, cur, rfl, hb, hg, rest⟩
  · exact .inl hn
  · exact .inr ⟨g, cap, cur, rfl, hb, (t.block g (lt_of_block hg) (hs g rfl)).trans hg, rest⟩
theorem ownsMap_touch {H : Type} {P : Program} {k : TypeId} {R : Value → Option (DataW H × List MemPlace)} {S : Nat → Prop} {w w' : World} {b n : Nat} {D : DataW H} (h : w.ownsMap P k R b n D) (t : Touch S w w') (hs : ¬ S b) : w'.ownsMap P k R b n D := by
  have hlt := h.lt
  obtain ⟨es, clock, hb, r⟩ := h
  exact ⟨es, clock, (t.block b hlt hs).trans hb, r⟩

/-- Block g is just the cells cs, none frozen. -/
def Blk (w : World) (g : Nat) (t : TypeId) (cs : Array Value) : Prop := w.heap[g]? = some (.cells cs t (0, 0))
theorem Blk.lt {w : World} {g : Nat} {t : TypeId} {cs : Array Value} (h : Blk w g t cs) : g < w.heap.size := lt_of_block h
theorem Blk.cell {w : World} {g : Nat} {t : TypeId} {cs : Array Value} (h : Blk w g t cs) (i : Nat) : w.cell? ⟨g, i, none⟩ = cs[i]? := by
  unfold Blk at h; simp [World.cell?, h]
theorem Blk.frozen {w : World} {g : Nat} {t : TypeId} {cs : Array Value} (h : Blk w g t cs) (i : Nat) : w.frozen? ⟨g, i, none⟩ = false := by
  unfold Blk at h; simp [World.frozen?, h]
theorem Blk.new (w : World) (t : TypeId) (cs : Array Value) : Blk (w.alloc (.cells cs t)) w.heap.size t cs := heap_alloc_new w _
theorem Blk.touch {S : Nat → Prop} {w w' : World} {g : Nat} {t : TypeId} {cs : Array Value} (h : Blk w g t cs) (k : Touch S w w') (hs : ¬ S g) : Blk w' g t cs := (k.block g h.lt hs).trans h
theorem Blk.ext {w w' : World} {g : Nat} {t : TypeId} {cs : Array Value} (h : Blk w g t cs) (k : Ext w w') : Blk w' g t cs := (k.block h.lt).trans h
theorem Blk.set_ {w : World} {g : Nat} {t : TypeId} {cs : Array Value} (h : Blk w g t cs) (i : Nat) (u : Value) : Blk (w.setCell ⟨g, i, none⟩ u) g t (cs.setIfInBounds i u) := by
  unfold Blk at h ⊢
  simp [World.setCell, Array.getElem?_modify, h]
theorem Blk.far {w : World} {g : Nat} {t : TypeId} {cs : Array Value} (h : Blk w g t cs) {p : Addr} (hp : g ≠ p.block) (u : Value) : Blk (w.setCell p u) g t cs := (Below.heap_setCell w p u g hp).trans h
theorem Blk.ne_own {α : Type} {E : Enc α} {w : World} {base g : Nat} {e t : TypeId} {cs : Array Value} {v : Value} {l : List α} (h : Blk w g t cs) (o : Own E w base e v l) (hne : e ≠ t) : v.ownBlock ≠ some g := by
  rcases o.2 with ⟨rfl, _⟩ | ⟨g', cap, cur, rfl, _, hg, _⟩
  · simp [Value.ownBlock]
  · intro he
    have e' : g' = g := by simpa [Value.ownBlock] using he
    subst e'
    unfold Blk at h
    rw [hg] at h
    injection h with h
    injection h with _ ht
    exact hne ht
theorem Blk.ne_map {H : Type} {P : Program} {k : TypeId} {R : Value → Option (DataW H × List MemPlace)} {w : World} {g : Nat} {t : TypeId} {cs : Array Value} {b n : Nat} {D : DataW H} (h : Blk w g t cs) (o : w.ownsMap P k R b n D) : g ≠ b := by
  obtain ⟨es, clock, hb, _⟩ := o
  rintro rfl
  unfold Blk at h
  rw [hb] at h
  injection h with h
  cases h
theorem own_ne_map {H : Type} {P : Program} {k : TypeId} {R : Value → Option (DataW H × List MemPlace)} {α : Type} {E : Enc α} {w : World} {base : Nat} {e : TypeId} {v : Value} {l : List α} {b n : Nat} {D : DataW H} (h : Own E w base e v l) (o : w.ownsMap P k R b n D) : v.ownBlock ≠ some b := by
  obtain ⟨es, clock, hb, _⟩ := o
  rcases h.2 with ⟨rfl, _⟩ | ⟨g', cap, cur, rfl, _, hg, _⟩
  · simp [Value.ownBlock]
  · intro he
    have e' : g' = b := by simpa [Value.ownBlock] using he
    subst e'
    rw [hb] at hg
    injection hg with hg
    cases hg

/-- append of one element to a row of the call's own: where the new row lies, and what was written. -/
theorem wpList_app_at {α : Type} (E : Enc α) {P : Program} {t e : TypeId} {z : Value} {bytes : Nat} (T : ElemT P t e z E.size bytes) {ops : Array Oper} {rest : List Oper} {o : Oper} {a : Act} {Q : Exit → Act → World → Prop}
    (hgd : o.guard = none) (s x : Operand) (ho : o.op = .call { callee := .builtin .append, args := #[s, x], argTypes := #[t, t] })
    (base : Nat) (w : World) (v : Value) (l : List α) (hs : a.eval s = v) (hown : Own E w base e v l)
    (y : α) (cs : Array Value) (e' : TypeId) (hcs : cs = (E.cells y).toArray) (b : Nat) (hb : b = w.heap.size) (hx : a.eval x = .slice (some ⟨b, 0, none⟩) 1 1)
    (hlen : (l.length + 1) * bytes ≤ 140737488355328) (hl : l.length ≤ 1000000000) (hbase : base ≤ w.heap.size)
    (h : ∀ g c w', Own E w' base e (.slice (some ⟨g, 0, none⟩) (l.length + 1) c) (l ++ [y]) → Touch (fun k => v.ownBlock = some k) w w' → (v.ownBlock = some g ∨ w.heap.size ≤ g) → wpList P ops Q rest (a.put o.dst (.slice (some ⟨g, 0, none⟩) (l.length + 1) c)) w') : wpList P ops Q (o :: rest) a (w.alloc (.cells cs e')) := by
  subst hb
  obtain ⟨i0, hi, hz0, hz1, hz2⟩ := info_parts T.info
  have hnews := cells_new w cs e'
  subst hcs
  refine wpList_append_own_at _ hgd s x t ho base e i0 z E.size bytes T.under hi hz0 hz1 hz2 T.zs T.pos v l.length (l.flatMap E.cells) hs (World.ownsRow.alloc hown _) ⟨w.heap.size, 0, none⟩ 1 1 (E.cells y) hx (by simp [E.len]) (by simpa using hnews) (E.one y) (by unfold maxLen; omega) hlen (by simp; omega) ?_
  intro v' w' hown' hg _ hloc
  have hown'' : Own E w' base e v' (l ++ [y]) := by unfold Own; simpa using hown'
  obtain ⟨g, c, rfl⟩ := hown''.cons
  refine h g c w' hown'' (((Touch.refl _ w).alloc _).grown hg (fun k hk => .inl hk)) ?_
  simp only [Value.ownBlock, World.size_alloc, Option.some.injEq] at hloc
  rcases hloc with hloc | hloc
  · exact .inl hloc.symm
  · exact .inr (by omega)
end Go.Proofs.Ytkonojjillcfiaa

/- Equality of cells and of pairs of cells, as the program's operations have it. -/
namespace Go.Proofs.Ytkonojjillcfiaa
open Go.RowKit

abbrev Cell := Int × Int

theorem und_cell : Try.prog.underlying 49 = some (.struct (Try.prog.fieldsOf 49)) := by kernel_rfl
theorem stood_cell : Try.prog.stoodInHeld 49 = false := by kernel_rfl

theorem eqIn_cell (d : Nat) (a b c e : Int) (w : World) : (Op.equalIn (d + 3) 49 (.agg #[.int .i64 a, .int .i64 b]) (.agg #[.int .i64 c, .int .i64 e])).run Try.prog w = .ok (a == c && b == e) w := by
  rw [run_equalIn_struct w (d + 2) 49 _ _ und_cell stood_cell]
  cases h : a == c <;> cases h' : b == e <;> simp [go_sem, h, h']

theorem und_pair : Try.prog.underlying 50 = some (.array 2 49) := by kernel_rfl

theorem info_cell : ∃ i, Try.prog.info? 49 = some i := info_of_underlying und_cell

theorem eqIn_pair (d : Nat) (a b a2 b2 c e c2 e2 : Int) (w : World) : (Op.equalIn (d + 4) 50 (.agg #[.int .i64 a, .int .i64 b, .int .i64 a2, .int .i64 b2]) (.agg #[.int .i64 c, .int .i64 e, .int .i64 c2, .int .i64 e2])).run Try.prog w = .ok ((a == c && b == e) && (a2 == c2 && b2 == e2)) w := by
  obtain ⟨i, hi⟩ := info_cell
  have hcells : Try.prog.cellsOf 49 = 2 := by kernel_rfl
  rw [run_equalIn_array w (d + 3) _ _ und_pair hi, hcells]
  by_cases h1 : a = c <;> by_cases h2 : b = e <;> by_cases h3 : a2 = c2 <;> by_cases h4 : b2 = e2 <;> simp [Op.eqItems, List.range_succ, go_sem, h1, h2, h3, h4]

def cellB (p q : Cell) : Bool := p.1 == q.1 && p.2 == q.2
theorem cellB_eq (p q : Cell) : cellB p q = decide (p = q) := by
  rw [Bool.eq_iff_iff]; simp [cellB, Prod.ext_iff]
def pairB (p q : Cell × Cell) : Bool := cellB p.1 q.1 && cellB p.2 q.2
theorem pairB_eq (p q : Cell × Cell) : pairB p q = decide (p = q) := by
  rw [Bool.eq_iff_iff]; simp [pairB, cellB_eq, Prod.ext_iff]
theorem eq_pair (p q : Cell × Cell) (w : World) : (Op.equalIn 10000 50 (.agg #[.int .i64 p.1.1, .int .i64 p.1.2, .int .i64 p.2.1, .int .i64 p.2.2]) (.agg #[.int .i64 q.1.1, .int .i64 q.1.2, .int .i64 q.2.1, .int .i64 q.2.2])).run Try.prog w = .ok (pairB p q) w := eqIn_pair 9996 _ _ _ _ _ _ _ _ w
theorem eq_cell (p q : Cell) (w : World) : (Op.equalIn 10000 49 (.agg #[.int .i64 p.1, .int .i64 p.2]) (.agg #[.int .i64 q.1, .int .i64 q.2])).run Try.prog w = .ok (cellB p q) w := eqIn_cell 9997 _ _ _ _ w
end Go.Proofs.Ytkonojjillcfiaa

/- Fields: a map of costs by value; grid's Check, the references' Check and Cost. -/
namespace Go.Proofs.Ytkonojjillcfiaa
open Go.RowKit

/-- The numbers that a slice value reads, if there are any. -/
def Row16 (w : World) (a : Option Addr) (l : List Int) : Prop := 0 < l.length → ∃ b off, a = some ⟨b, off, none⟩ ∧ b < w.heap.size ∧ ∀ k (h : k < l.length), w.cell? ⟨b, off + k, none⟩ = some (.int .u16 l[k])
theorem Row16.ext {w w' : World} {a : Option Addr} {l : List Int} (h : Row16 w a l) (e : Ext w w') : Row16 w' a l := fun h0 => by
  obtain ⟨b, off, ha, hb, hc⟩ := h h0
  exact ⟨b, off, ha, Nat.lt_of_lt_of_le hb e.size, fun k hk => (e.cell (p := ⟨b, off + k, none⟩) hb).trans (hc k hk)⟩
def U16s (l : List Int) : Prop := ∀ x ∈ l, 0 ≤ x ∧ x ≤ 65535

def checkE (W H : Int) (n : Nat) : Int := if mayB W H = true then (if (n : Int) = W * H then 0 else 12) else 10
theorem checkE_ok {W H : Int} {n : Nat} : checkE W H n = 0 ↔ mayB W H = true ∧ (n : Int) = W * H := by
  unfold checkE
  split
  · split <;> simp [*]
  · simp [*]

theorem gCheck_any (W H : Int) (a : Option Addr) (n c : Nat) (w : World) :
    Calls Try.prog 48 #[.agg #[.int .i64 W, .int .i64 H, .slice a n c]] w fun e w' => e = .returned (.int .i64 (checkE W H n)) ∧ Ext w w' := by
  cases hm : mayB W H
  · have e0 : checkE W H n = 10 := by simp [checkE, hm]
    rw [e0]; clear e0
    go_enter Try.func48, Try.ntmps48
    go_wp2_with (go_at_call 75; refine (may_any _ _ _).mono ?_; rintro e w1 ⟨rfl, hb1⟩; obtain ⟨hc1, hf1⟩ := hb1.cells; have hz1 := hb1.size; (repeat (first | rw [World.size_alloc] at hz1 | rw [World.size_drew] at hz1)); have z1_0 : w.heap.size < w1.heap.size := (by omega))
    go_ret
    exact ⟨rfl, (by (with_reducible (repeat' (first | exact Ext.refl _ | assumption | refine Ext.drew ?_ | refine Ext.drewN ?_ _ | refine Ext.alloc ?_ _ | refine Ext.setCell ?_ ?_ _ | refine Ext.trans ?_ (by assumption)))); all_goals (first | (simp; done) | (simp; omega)))⟩
  · obtain ⟨h1, h2, h3, h4⟩ := mayB_true.1 hm
    have hb := mul_bd (a := W) (b := H) (A := 256) (B := 256) (by omega) h2 (by omega) h4
    have k1 : IntKind.i64.wrap (W * H) = W * H := IntWalk.i64_in _ (by omega)
    by_cases hl : (n : Int) = W * H
    · have e0 : checkE W H n = 0 := by simp [checkE, hm, hl]
      rw [e0]; clear e0
      have hl' : ((n : Int) != W * H) = false := by simpa using hl
      clear hl
      go_enter Try.func48, Try.ntmps48
      go_wp2_with (go_at_call 75; refine (may_any _ _ _).mono ?_; rintro e w1 ⟨rfl, hb1⟩; obtain ⟨hc1, hf1⟩ := hb1.cells; have hz1 := hb1.size; (repeat (first | rw [World.size_alloc] at hz1 | rw [World.size_drew] at hz1)); have z1_0 : w.heap.size < w1.heap.size := (by omega))
      go_ret
      exact ⟨rfl, (by (with_reducible (repeat' (first | exact Ext.refl _ | assumption | refine Ext.drew ?_ | refine Ext.drewN ?_ _ | refine Ext.alloc ?_ _ | refine Ext.setCell ?_ ?_ _ | refine Ext.trans ?_ (by assumption)))); all_goals (first | (simp; done) | (simp; omega)))⟩
    · have e0 : checkE W H n = 12 := by simp [checkE, hm, hl]
      rw [e0]; clear e0
      have hl' : ((n : Int) != W * H) = true := by simpa using hl
      clear hl
      go_enter Try.func48, Try.ntmps48
      go_wp2_with (go_at_call 75; refine (may_any _ _ _).mono ?_; rintro e w1 ⟨rfl, hb1⟩; obtain ⟨hc1, hf1⟩ := hb1.cells; have hz1 := hb1.size; (repeat (first | rw [World.size_alloc] at hz1 | rw [World.size_drew] at hz1)); have z1_0 : w.heap.size < w1.heap.size := (by omega))
      go_ret
      exact ⟨rfl, (by (with_reducible (repeat' (first | exact Ext.refl _ | assumption | refine Ext.drew ?_ | refine Ext.drewN ?_ _ | refine Ext.alloc ?_ _ | refine Ext.setCell ?_ ?_ _ | refine Ext.trans ?_ (by assumption)))); all_goals (first | (simp; done) | (simp; omega)))⟩

theorem r01May_any (W H : Int) (w : World) : Calls Try.prog 55 #[.agg #[.int .i64 W, .int .i64 H]] w fun e w' => e = .returned (.bool (mayB W H)) ∧ Ext w w' := by
  go_enter Try.func55, Try.ntmps55
  go_wp2
  all_goals go_ret
  all_goals exact ⟨by first | (simp [mayB, betw, *]; done) | (simp [mayB, betw]; omega) | (simp [mayB, betw, *]; omega), (by (with_reducible (repeat' (first | exact Ext.refl _ | assumption | refine Ext.drew ?_ | refine Ext.drewN ?_ _ | refine Ext.alloc ?_ _ | refine Ext.setCell ?_ ?_ _ | refine Ext.trans ?_ (by assumption)))); all_goals (first | (simp; done) | (simp; omega)))⟩

theorem r04Check_any (W H : Int) (a : Option Addr) (n c : Nat) (w : World) :
    Calls Try.prog 23 #[.agg #[.int .i64 W, .int .i64 H, .slice a n c]] w fun e w' => e = .returned (.int .i64 (checkE W H n)) ∧ Ext w w' := by
  cases hm : mayB W H
  · have e0 : checkE W H n = 10 := by simp [checkE, hm]
    rw [e0]; clear e0
    go_enter Try.func23, Try.ntmps23
    go_wp2_with (go_at_call 55; refine (r01May_any _ _ _).mono ?_; rintro e w1 ⟨rfl, hb1⟩; obtain ⟨hc1, hf1⟩ := hb1.cells; have hz1 := hb1.size; (repeat (first | rw [World.size_alloc] at hz1 | rw [World.size_drew] at hz1)); have z1_0 : w.heap.size < w1.heap.size := (by omega))
    go_ret
    exact ⟨rfl, (by (with_reducible (repeat' (first | exact Ext.refl _ | assumption | refine Ext.drew ?_ | refine Ext.drewN ?_ _ | refine Ext.alloc ?_ _ | refine Ext.setCell ?_ ?_ _ | refine Ext.trans ?_ (by assumption)))); all_goals (first | (simp; done) | (simp; omega)))⟩
  · obtain ⟨h1, h2, h3, h4⟩ := mayB_true.1 hm
    have hb := mul_bd (a := W) (b := H) (A := 256) (B := 256) (by omega) h2 (by omega) h4
    have k1 : IntKind.i64.wrap (W * H) = W * H := IntWalk.i64_in _ (by omega)
    by_cases hl : (n : Int) = W * H
    · have e0 : checkE W H n = 0 := by simp [checkE, hm, hl]
      rw [e0]; clear e0
      have hl' : ((n : Int) != W * H) = false := by simpa using hl
      clear hl
      go_enter Try.func23, Try.ntmps23
      go_wp2_with (go_at_call 55; refine (r01May_any _ _ _).mono ?_; rintro e w1 ⟨rfl, hb1⟩; obtain ⟨hc1, hf1⟩ := hb1.cells; have hz1 := hb1.size; (repeat (first | rw [World.size_alloc] at hz1 | rw [World.size_drew] at hz1)); have z1_0 : w.heap.size < w1.heap.size := (by omega))
      go_ret
      exact ⟨rfl, (by (with_reducible (repeat' (first | exact Ext.refl _ | assumption | refine Ext.drew ?_ | refine Ext.drewN ?_ _ | refine Ext.alloc ?_ _ | refine Ext.setCell ?_ ?_ _ | refine Ext.trans ?_ (by assumption)))); all_goals (first | (simp; done) | (simp; omega)))⟩
    · have e0 : checkE W H n = 12 := by simp [checkE, hm, hl]
      rw [e0]; clear e0
      have hl' : ((n : Int) != W * H) = true := by simpa using hl
      clear hl
      go_enter Try.func23, Try.ntmps23
      go_wp2_with (go_at_call 55; refine (r01May_any _ _ _).mono ?_; rintro e w1 ⟨rfl, hb1⟩; obtain ⟨hc1, hf1⟩ := hb1.cells; have hz1 := hb1.size; (repeat (first | rw [World.size_alloc] at hz1 | rw [World.size_drew] at hz1)); have z1_0 : w.heap.size < w1.heap.size := (by omega))
      go_ret
      exact ⟨rfl, (by (with_reducible (repeat' (first | exact Ext.refl _ | assumption | refine Ext.drew ?_ | refine Ext.drewN ?_ _ | refine Ext.alloc ?_ _ | refine Ext.setCell ?_ ?_ _ | refine Ext.trans ?_ (by assumption)))); all_goals (first | (simp; done) | (simp; omega)))⟩

theorem idx_bd {W H x y : Int} (h1 : 0 ≤ x) (h2 : x < W) (h3 : 0 ≤ y) (h4 : y < H) : 0 ≤ y * W ∧ 0 ≤ y * W + x ∧ y * W + x < W * H := by
  have a := Int.mul_nonneg h3 (show 0 ≤ W by omega)
  have b : y * W ≤ (H - 1) * W := Int.mul_le_mul_of_nonneg_right (by omega) (by omega)
  rw [Int.sub_mul, Int.mul_comm H] at b
  omega

/-- A cell's cost. -/
def costI (l : List Int) (W : Int) (p : Cell) : Int := l.getD (p.2 * W + p.1).toNat 0
theorem costI_bd {l : List Int} (h : U16s l) (W : Int) (p : Cell) : 0 ≤ costI l W p ∧ costI l W p ≤ 65535 := by
  unfold costI
  rw [List.getD_eq_getElem?_getD]
  cases hh : l[(p.2 * W + p.1).toNat]? with
  | none => simp
  | some x => exact h x (List.mem_of_getElem? hh)
theorem cost_cell {w : World} {a : Option Addr} {l : List Int} (h : Row16 w a l) {W H x y : Int} (hl : (l.length : Int) = W * H) (h1 : 0 ≤ x) (h2 : x < W) (h3 : 0 ≤ y) (h4 : y < H) :
    ∃ b off, a = some ⟨b, off, none⟩ ∧ b < w.heap.size ∧ w.cell? ⟨b, off + (y * W + x).toNat, none⟩ = some (.int .u16 (costI l W (x, y))) := by
  have hb := idx_bd h1 h2 h3 h4
  have hk : (y * W + x).toNat < l.length := by omega
  obtain ⟨b, off, ha, hlt, hc⟩ := h (by omega)
  refine ⟨b, off, ha, hlt, ?_⟩
  rw [hc _ hk]
  unfold costI
  simp [List.getD_eq_getElem?_getD, hk]

theorem rCost_any (W H : Int) (a : Option Addr) (l : List Int) (c : Nat) (x y : Int) (w : World) (hm : mayB W H = true) (hl : (l.length : Int) = W * H) (hr : Row16 w a l) (hu : U16s l) (h1 : 0 ≤ x) (h2 : x < W) (h3 : 0 ≤ y) (h4 : y < H) :
    Calls Try.prog 26 #[.agg #[.int .i64 W, .int .i64 H, .slice a l.length c], .agg #[.int .i64 x, .int .i64 y]] w fun e w' => e = .returned (.int .u64 (costI l W (x, y))) ∧ Ext w w' := by
  obtain ⟨m1, m2, m3, m4⟩ := mayB_true.1 hm
  obtain ⟨b, off, rfl, hb, hc⟩ := cost_cell hr hl h1 h2 h3 h4
  have cb := costI_bd hu W (x, y)
  have ib := idx_bd h1 h2 h3 h4
  have ib2 : y * W + x < (l.length : Int) := by omega
  have wb := mul_bd (a := W) (b := H) (A := 256) (B := 256) (by omega) m2 (by omega) m4
  have k1 : IntKind.i64.wrap (y * W) = y * W := IntWalk.i64_in _ (by omega)
  have k2 : IntKind.i64.wrap (y * W + x) = y * W + x := IntWalk.i64_in _ (by omega)
  generalize costI l W (x, y) = v at *
  obtain ⟨n, hn⟩ : ∃ n, l.length = n := ⟨_, rfl⟩
  rw [hn] at ib2 ⊢
  clear hr hl hn hu
  go_enter Try.func26, Try.ntmps26
  go_wp2
  go_ret
  exact ⟨rfl, (by (with_reducible (repeat' (first | exact Ext.refl _ | assumption | refine Ext.drew ?_ | refine Ext.drewN ?_ _ | refine Ext.alloc ?_ _ | refine Ext.setCell ?_ ?_ _ | refine Ext.trans ?_ (by assumption)))); all_goals (first | (simp; done) | (simp; omega)))⟩

theorem eq_size (a b c d : Int) (w : World) : (Op.equalIn 10000 23 (.agg #[.int .i64 a, .int .i64 b]) (.agg #[.int .i64 c, .int .i64 d])).run Try.prog w = .ok (a == c && b == d) w := by
  have u : Try.prog.underlying 23 = some (.struct (Try.prog.fieldsOf 23)) := by kernel_rfl
  have s : Try.prog.stoodInHeld 23 = false := by kernel_rfl
  rw [run_equalIn_struct w 9999 23 _ _ u s]
  cases h : a == c <;> cases h' : b == d <;> simp [go_sem, h, h']
end Go.Proofs.Ytkonojjillcfiaa
