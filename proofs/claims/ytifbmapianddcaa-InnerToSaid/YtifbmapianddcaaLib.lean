/- Words of my own for the walks: a world grown by new blocks alone (Ext), what a region keeps, small lemmas on numbers. -/
import Derived.Test.YtifbmapianddcaaRows
import Derived.WalkKit
import Derived.WalkSpells
import Derived.Deep.RegionHeld3
import Derived.RowKit3
import Derived.Lib.Hide
import Derived.BigGuardPart
import Derived.OneCell
import Derived.Deep.QuietTactic
import Derived.BigQuiet
import Derived.LoopTactic
import Derived.Deep.LoopGhost
import Derived.Laws.OwnMore
namespace Go.Proofs.Ytifbmapianddcaa
open Go.RowKit

theorem hide {p : Prop} (h : p) : Hid p := h

/-- All blocks that stood in w stand in w' as they did; new ones may have come. -/
def Ext (w w' : World) : Prop := Below w.heap.size w w'

theorem Ext.below {w w' : World} (h : Ext w w') : Below w.heap.size w w' := h
theorem Ext.refl (w : World) : Ext w w := Below.refl _ _
theorem Ext.size {a b : World} (h : Ext a b) : a.heap.size ≤ b.heap.size := Below.size h
theorem Ext.trans {a b c : World} (h : Ext a b) (k : Ext b c) : Ext a c := Below.trans h (Below.mono k h.size)
theorem Ext.drew {a b : World} (h : Ext a b) : Ext a b.drew := Below.drew h
theorem Ext.drewN {a b : World} (h : Ext a b) (n : Nat) : Ext a (b.drewN n) := ⟨h.os, h.tape, h.output, h.size, fun k hk => h.below.block k hk⟩
theorem Ext.alloc {a b : World} (h : Ext a b) (o : Obj) : Ext a (b.alloc o) := Below.alloc h h.size o
theorem Ext.setCell {a b : World} (h : Ext a b) {p : Addr} (hp : a.heap.size ≤ p.block) (u : Value) : Ext a (b.setCell p u) := Below.setCell h hp u
theorem Ext.cell {a b : World} (h : Ext a b) {p : Addr} (hp : p.block < a.heap.size) : b.cell? p = a.cell? p := Below.cell h hp
theorem Ext.block {a b : World} (h : Ext a b) {k : Nat} (hk : k < a.heap.size) : b.heap[k]? = a.heap[k]? := Below.block h k hk
theorem Ext.cells {W w1 : World} (hb : Ext W w1) : (∀ b o, b < W.heap.size → w1.cell? ⟨b, o, none⟩ = W.cell? ⟨b, o, none⟩) ∧ (∀ b o, b < W.heap.size → w1.frozen? ⟨b, o, none⟩ = W.frozen? ⟨b, o, none⟩) :=
  ⟨fun b o h => Below.cell hb (p := ⟨b, o, none⟩) h, fun b o h => Below.frozen hb (p := ⟨b, o, none⟩) h⟩
theorem Ext.grown {a b c : World} {row : Option Nat} (h : Ext a b) (hg : b.grownBy c row) (hr : ∀ k, row = some k → a.heap.size ≤ k) : Ext a c := Below.grown h hg h.size hr

/-- What a region keeps: the cells that stood when it began. -/
theorem pr_start (W0 : World) : (∀ b o, b < W0.heap.size → W0.drew.cell? ⟨b, o, none⟩ = W0.cell? ⟨b, o, none⟩) ∧ Ext W0 W0.drew :=
  ⟨fun _ _ _ => rfl, (Ext.refl _).drew⟩
theorem pr_step {W0 W W' : World} (h : (∀ b o, b < W0.heap.size → W.cell? ⟨b, o, none⟩ = W0.cell? ⟨b, o, none⟩) ∧ Ext W0 W) (hb : Ext W W') :
    (∀ b o, b < W0.heap.size → W'.cell? ⟨b, o, none⟩ = W0.cell? ⟨b, o, none⟩) ∧ Ext W0 W' :=
  have hx := h.2.trans hb
  ⟨fun b o hlt => hx.cell (p := ⟨b, o, none⟩) hlt, hx⟩

/-- The cells of a block that was laid just now. -/
theorem cells_new (w : World) (cs : Array Value) (t : TypeId) : ∀ j u, cs.toList[j]? = some u → (w.alloc (.cells cs t)).cell? ((⟨w.heap.size, 0, none⟩ : Addr).add j) = some u := by
  intro j u hu
  have hadd : (⟨w.heap.size, 0, none⟩ : Addr).add j = ⟨w.heap.size, j, none⟩ := by unfold Addr.add; split <;> simp_all
  rw [hadd]
  have : (w.alloc (.cells cs t)).heap[w.heap.size]? = some (.cells cs t) := heap_alloc_new w _
  simp only [World.cell?, this]
  simpa using hu
theorem Ext.of_below {a b c : World} {q : Nat} (h : Ext a b) (k : Below q b c) (hq : a.heap.size ≤ q) : Ext a c := Below.trans h (Below.mono k hq)
theorem heap_new (w : World) (o : Obj) : (w.alloc o).heap[w.heap.size]? = some o := heap_alloc_new w o
theorem ints_one (l : List Int) : ∀ u ∈ l.map (Value.int .i64), u.oneCell' = true := ints_oneCell _ _

theorem pr_of {W0 W : World} (h : Ext W0 W) : (∀ b o, b < W0.heap.size → W.cell? ⟨b, o, none⟩ = W0.cell? ⟨b, o, none⟩) ∧ Ext W0 W :=
  ⟨fun b o hlt => h.cell (p := ⟨b, o, none⟩) hlt, h⟩
theorem pr_alloc {W0 W : World} (h : (∀ b o, b < W0.heap.size → W.cell? ⟨b, o, none⟩ = W0.cell? ⟨b, o, none⟩) ∧ Ext W0 W) (x : Obj) :
    (∀ b o, b < W0.heap.size → (W.alloc x).cell? ⟨b, o, none⟩ = W0.cell? ⟨b, o, none⟩) ∧ Ext W0 (W.alloc x) := pr_step h ((Ext.refl _).alloc x)
theorem pr_set {W0 W : World} (h : (∀ b o, b < W0.heap.size → W.cell? ⟨b, o, none⟩ = W0.cell? ⟨b, o, none⟩) ∧ Ext W0 W) {p : Addr} (hp : W0.heap.size ≤ p.block) (u : Value) :
    (∀ b o, b < W0.heap.size → (W.setCell p u).cell? ⟨b, o, none⟩ = W0.cell? ⟨b, o, none⟩) ∧ Ext W0 (W.setCell p u) :=
  have hx := h.2.setCell hp u
  ⟨fun b o hlt => hx.cell (p := ⟨b, o, none⟩) hlt, hx⟩

/-- A slice type with its element type: what append asks of the table. -/
structure ElemT (P : Program) (t e : TypeId) (z : Value) (size bytes : Nat) : Prop where
  under : P.underlying t = some (.slice e)
  info : (P.info? e).map (fun i => (i.zero, i.size, i.bytes)) = some (some z, size, bytes)
  zs : z.cells.size = size
  pos : 0 < size

/-- A way of laying data into cells: a fixed number of one-cell values. -/
structure Enc (α : Type) where
  size : Nat
  cells : α → List Value
  len : ∀ a, (cells a).length = size
  one : ∀ a, ∀ u ∈ cells a, u.oneCell' = true

theorem Enc.flat_len {α : Type} (E : Enc α) (l : List α) : (l.flatMap E.cells).length = l.length * E.size := by
  induction l with
  | nil => simp
  | cons a l ih => simp [ih, E.len, Nat.add_mul]; omega
theorem Enc.flat_one {α : Type} (E : Enc α) (l : List α) : ∀ u ∈ l.flatMap E.cells, u.oneCell' = true := by
  intro u hu
  obtain ⟨a, _, h⟩ := List.mem_flatMap.1 hu
  exact E.one a u h

/-- The slice value v owns, among the blocks from base on, a row that reads as l. -/
def Own {α : Type} (E : Enc α) (w : World) (base : Nat) (e : TypeId) (v : Value) (l : List α) : Prop := w.ownsRow base e E.size v l.length (l.flatMap E.cells)

theorem Own.nil {α : Type} (E : Enc α) (w : World) (base : Nat) (e : TypeId) : Own E w base e (.slice none 0 0) [] := ⟨by simp, .inl ⟨rfl, rfl⟩⟩

theorem Own.below {α : Type} {E : Enc α} {w w' : World} {base : Nat} {e : TypeId} {v : Value} {l : List α} (h : Own E w base e v l) (hb : Below w.heap.size w w') : Own E w' base e v l := by
  refine World.ownsRow.kept (row := none) h ⟨hb.os, hb.tape, hb.output, hb.size, fun k hk _ => hb.block k hk⟩ ?_
  cases v.ownBlock <;> simp
theorem Own.ext {α : Type} {E : Enc α} {w w' : World} {base : Nat} {e : TypeId} {v : Value} {l : List α} (h : Own E w base e v l) (hb : Ext w w') : Own E w' base e v l := h.below hb
theorem Own.drew {α : Type} {E : Enc α} {w : World} {base : Nat} {e : TypeId} {v : Value} {l : List α} (h : Own E w base e v l) : Own E w.drew base e v l := h
theorem Own.alloc {α : Type} {E : Enc α} {w : World} {base : Nat} {e : TypeId} {v : Value} {l : List α} (h : Own E w base e v l) (o : Obj) : Own E (w.alloc o) base e v l := World.ownsRow.alloc h o
theorem Own.lower {α : Type} {E : Enc α} {w : World} {base base' : Nat} {e : TypeId} {v : Value} {l : List α} (h : Own E w base e v l) (hb : base' ≤ base) : Own E w base' e v l := by
  refine ⟨h.1, ?_⟩
  rcases h.2 with hn | ⟨g, cap, cur, hv, hg, r⟩
  · exact .inl hn
  · exact .inr ⟨g, cap, cur, hv, Nat.le_trans hb hg, r⟩
/-- A store into a block below base leaves the row. -/
theorem Own.setCell {α : Type} {E : Enc α} {w : World} {base : Nat} {e : TypeId} {v : Value} {l : List α} (h : Own E w base e v l) {a : Addr} (ha : a.block < base) (u : Value) : Own E (w.setCell a u) base e v l := ownsRow_setCell_below h ha u

/-- The cells that a slice value reads: nil and empty, or a row somewhere. -/
def Reads {α : Type} (E : Enc α) (w : World) (v : Value) (l : List α) : Prop :=
  (v = .slice none 0 0 ∧ l = []) ∨ ∃ b off cap, v = .slice (some ⟨b, off, none⟩) l.length cap ∧ b < w.heap.size ∧ ∀ (k : Nat) (a : α), l[k]? = some a → ∀ (j : Nat) (u : Value), (E.cells a)[j]? = some u → w.cell? ⟨b, off + (k * E.size + j), none⟩ = some u

theorem flat_at {α : Type} (E : Enc α) (l : List α) (k : Nat) (a : α) (h : l[k]? = some a) (j : Nat) (u : Value) (hu : (E.cells a)[j]? = some u) : (l.flatMap E.cells)[k * E.size + j]? = some u := by
  induction l generalizing k with
  | nil => simp at h
  | cons b l ih =>
    cases k with
    | zero =>
      simp at h; subst h
      have hj : j < (E.cells b).length := (List.getElem?_eq_some_iff.1 hu).1
      simp [List.getElem?_append_left hj, hu]
    | succ k =>
      simp at h
      have := ih k h
      rw [List.flatMap_cons, List.getElem?_append_right (by rw [E.len, Nat.add_mul]; omega), E.len]
      rw [show (k + 1) * E.size + j - E.size = k * E.size + j by rw [Nat.add_mul]; omega]
      exact this

theorem Own.reads {α : Type} {E : Enc α} {w : World} {base : Nat} {e : TypeId} {v : Value} {l : List α} (h : Own E w base e v l) : Reads E w v l := by
  obtain ⟨h1, h2⟩ := h
  rcases h2 with ⟨rfl, h3⟩ | ⟨g, cap, cur, rfl, hb, hg, hn, hm, hs, ht⟩
  · exact .inl ⟨rfl, List.eq_nil_of_length_eq_zero h3⟩
  · refine .inr ⟨g, 0, cap, rfl, lt_of_block hg, fun k a ha j u hu => ?_⟩
    have hf := flat_at E l k a ha j u hu
    rw [← ht, List.getElem?_take] at hf
    split at hf
    · simp only [World.cell?, hg, Nat.zero_add]
      simpa using hf
    · cases hf
theorem Reads.ext {α : Type} {E : Enc α} {w w' : World} {v : Value} {l : List α} (h : Reads E w v l) (he : Ext w w') : Reads E w' v l := by
  rcases h with h | ⟨b, off, cap, hv, hb, h⟩
  · exact .inl h
  · exact .inr ⟨b, off, cap, hv, Nat.lt_of_lt_of_le hb he.size, fun k a ha j u hu => (he.cell (p := ⟨b, _, none⟩) hb).trans (h k a ha j u hu)⟩

theorem Own.cons {α : Type} {E : Enc α} {w : World} {base : Nat} {e : TypeId} {v : Value} {l : List α} {y : α} (h : Own E w base e v (l ++ [y])) : ∃ g c, v = .slice (some ⟨g, 0, none⟩) (l.length + 1) c := by
  rcases h.2 with ⟨_, hn⟩ | ⟨g, cap, cur, hv, _⟩
  · simp at hn
  · exact ⟨g, cap, by rw [hv]; simp⟩
theorem Own.slice {α : Type} {E : Enc α} {w : World} {base : Nat} {e : TypeId} {v : Value} {l : List α} (h : Own E w base e v l) : ∃ a c, v = .slice a l.length c := by
  rcases h.2 with ⟨hv, hn⟩ | ⟨g, cap, cur, hv, _⟩
  · exact ⟨none, 0, by rw [hv, hn]⟩
  · exact ⟨_, cap, hv⟩
theorem Reads.slice {α : Type} {E : Enc α} {w : World} {v : Value} {l : List α} (h : Reads E w v l) : ∃ a c, v = .slice a l.length c := by
  rcases h with ⟨hv, hn⟩ | ⟨b, off, cap, hv, _⟩
  · exact ⟨none, 0, by rw [hv, hn]; rfl⟩
  · exact ⟨_, cap, hv⟩

/-- A slice literal: what its block was laid with. -/
theorem reads_lit {α : Type} (E : Enc α) (w : World) (cs : Array Value) (t : TypeId) (l : List α) (h : cs.toList = l.flatMap E.cells) (b c n : Nat) (hb : b = w.heap.size) (hn : n = l.length) : Reads E (w.alloc (.cells cs t)) (.slice (some ⟨b, 0, none⟩) n c) l := by
  subst hb; subst hn
  refine .inr ⟨_, 0, c, rfl, by simp, fun k a ha j u hu => ?_⟩
  have hf := flat_at E l k a ha j u hu
  rw [← h] at hf
  have := cells_new w cs t _ u hf
  have hadd : (⟨w.heap.size, 0, none⟩ : Addr).add (k * E.size + j) = ⟨w.heap.size, 0 + (k * E.size + j), none⟩ := by unfold Addr.add; split <;> simp_all
  rw [hadd] at this
  exact this

theorem Own.lit0 {α : Type} (E : Enc α) (w : World) (base b : Nat) (e : TypeId) (hb : b = w.heap.size) (hbase : base ≤ b) : Own E (w.alloc (.cells #[] e)) base e (.slice (some ⟨b, 0, none⟩) 0 0) [] := by
  subst hb
  exact ⟨by simp, .inr ⟨w.heap.size, 0, #[], rfl, hbase, heap_alloc_new w _, Nat.le_refl _, Nat.zero_le _, by simp, by simp⟩⟩

/-- append of one element to a row of the call's own. -/
theorem wpList_app {α : Type} (E : Enc α) {P : Program} {t e : TypeId} {z : Value} {bytes : Nat} (T : ElemT P t e z E.size bytes) {ops : Array Oper} {rest : List Oper} {o : Oper} {a : Act} {Q : Exit → Act → World → Prop}
    (hgd : o.guard = none) (s x : Operand) (ho : o.op = .call { callee := .builtin .append, args := #[s, x], argTypes := #[t, t] })
    (base : Nat) (w : World) (v : Value) (l : List α) (hs : a.eval s = v) (hown : Own E w base e v l)
    (y : α) (cs : Array Value) (e' : TypeId) (hcs : cs = (E.cells y).toArray) (b : Nat) (hb : b = w.heap.size) (hx : a.eval x = .slice (some ⟨b, 0, none⟩) 1 1)
    (hlen : (l.length + 1) * bytes ≤ 140737488355328) (hl : l.length ≤ 1000000000) (hbase : base ≤ w.heap.size)
    (h : ∀ g c w', Own E w' base e (.slice (some ⟨g, 0, none⟩) (l.length + 1) c) (l ++ [y]) → Below base w w' → wpList P ops Q rest (a.put o.dst (.slice (some ⟨g, 0, none⟩) (l.length + 1) c)) w') : wpList P ops Q (o :: rest) a (w.alloc (.cells cs e')) := by
  subst hb
  obtain ⟨i0, hi, hz0, hz1, hz2⟩ := info_parts T.info
  have hnews := cells_new w cs e'
  subst hcs
  refine wpList_append_own _ hgd s x t ho base e i0 z E.size bytes T.under hi hz0 hz1 hz2 T.zs T.pos v l.length (l.flatMap E.cells) hs (World.ownsRow.alloc hown _) ⟨w.heap.size, 0, none⟩ 1 1 (E.cells y) hx (by simp [E.len]) (by simpa using hnews) (E.one y) (by unfold maxLen; omega) hlen (by simp; omega) ?_
  intro v' w' hown' hg _
  have hown'' : Own E w' base e v' (l ++ [y]) := by unfold Own; simpa using hown'
  obtain ⟨g, c, rfl⟩ := hown''.cons
  refine h g c w' hown'' ?_
  · refine (((Below.refl base w).alloc hbase _).grown hg (by simp; omega) ?_)
    intro k hk
    exact (World.ownsRow.lt hown k hk).1

theorem below_cells {q : Nat} {W w1 : World} (hb : Below q W w1) : ∀ b o, b < q → w1.cell? ⟨b, o, none⟩ = W.cell? ⟨b, o, none⟩ := fun b o h => hb.cell (p := ⟨b, o, none⟩) h

def intE : Enc Int := ⟨1, fun x => [.int .i64 x], fun _ => rfl, fun _ u hu => by simp at hu; subst hu; rfl⟩

theorem mul_bd {a b A B : Int} (h1 : 0 ≤ a) (h2 : a ≤ A) (h3 : 0 ≤ b) (h4 : b ≤ B) : 0 ≤ a * b ∧ a * b ≤ A * B :=
  ⟨Int.mul_nonneg h1 h3, Int.mul_le_mul h2 h4 h3 (by omega)⟩
theorem div_bd {a s A : Int} (h1 : 0 ≤ a) (h2 : a ≤ A) (h3 : 1 ≤ s) : 0 ≤ a / s ∧ a / s ≤ A :=
  ⟨Int.ediv_nonneg h1 (by omega), Int.le_trans (Int.ediv_le_self _ h1) h2⟩
theorem tdiv_in {a s : Int} (h1 : 0 ≤ a) (h2 : a ≤ 9223372036854775807) (h3 : 1 ≤ s) : IntKind.i64.wrap (a.tdiv s) = a / s := by
  rw [Int.tdiv_eq_ediv_of_nonneg h1]
  have := div_bd h1 h2 h3
  exact IntWalk.i64_in _ (by omega)
theorem tmod_in {a s : Int} (h1 : 0 ≤ a) (_h2 : a ≤ 9223372036854775807) (_h3 : 1 ≤ s) : a.tmod s = a % s := Int.tmod_eq_emod_of_nonneg h1
theorem emod_le {a s : Int} (h1 : 0 ≤ a) (h3 : 1 ≤ s) : a % s ≤ a := by
  have e := Int.emod_add_mul_ediv a s
  have := Int.mul_nonneg (show 0 ≤ s by omega) (Int.ediv_nonneg h1 (show 0 ≤ s by omega))
  omega
theorem tmod_in' {a s : Int} (h1 : 0 ≤ a) (h2 : a ≤ 9223372036854775807) (h3 : 1 ≤ s) : IntKind.i64.wrap (a.tmod s) = a % s := by
  rw [Int.tmod_eq_emod_of_nonneg h1]
  have h4 := Int.emod_nonneg a (show s ≠ 0 by omega)
  have h5 := Int.emod_lt_of_pos a (show 0 < s by omega)
  have h6 : a % s ≤ a := by have e := Int.emod_add_mul_ediv a s; have := Int.mul_nonneg (show 0 ≤ s by omega) (Int.ediv_nonneg h1 (show 0 ≤ s by omega)); omega
  exact IntWalk.i64_in _ (by omega)
end Go.Proofs.Ytifbmapianddcaa
