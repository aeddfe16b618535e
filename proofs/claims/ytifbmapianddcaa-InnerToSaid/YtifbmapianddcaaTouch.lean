/- Words of my own: a world in which of the old blocks only some were written (Touch); blocks that are known whole; rows of numbers of a kind. -/
import Derived.Test.YtifbmapianddcaaLib
import Derived.Maps.OwnSet
import Derived.Maps.AppendAt
namespace Go.Proofs.Ytifbmapianddcaa
open Go.RowKit

/-- Of the blocks of w only those in S may have turned; new ones may have come. -/
structure Touch (S : Nat → Prop) (w w' : World) : Prop where
  os : w'.os = w.os
  tape : w'.tape = w.tape
  output : w'.output = w.output
  size : w.heap.size ≤ w'.heap.size
  block : ∀ k, k < w.heap.size → ¬ S k → w'.heap[k]? = w.heap[k]?

theorem Touch.refl (S : Nat → Prop) (w : World) : Touch S w w := ⟨rfl, rfl, rfl, Nat.le_refl _, fun _ _ _ => rfl⟩
theorem Touch.trans {S : Nat → Prop} {a b c : World} (h : Touch S a b) (k : Touch S b c) : Touch S a c :=
  ⟨k.os.trans h.os, k.tape.trans h.tape, k.output.trans h.output, Nat.le_trans h.size k.size, fun i hi hs => (k.block i (Nat.lt_of_lt_of_le hi h.size) hs).trans (h.block i hi hs)⟩
theorem Touch.mono {S S' : Nat → Prop} {a b : World} (h : Touch S a b) (hs : ∀ k, k < a.heap.size → S k → S' k) : Touch S' a b :=
  ⟨h.os, h.tape, h.output, h.size, fun i hi hn => h.block i hi (fun hS => hn (hs i hi hS))⟩
theorem Touch.of_ext {S : Nat → Prop} {a b : World} (h : Ext a b) : Touch S a b := ⟨h.below.os, h.below.tape, h.below.output, h.size, fun i hi _ => h.below.block i hi⟩
theorem Touch.ext {a b : World} (h : Touch (fun _ => False) a b) : Ext a b := ⟨h.os, h.tape, h.output, h.size, fun i hi => h.block i hi (fun x => x)⟩
theorem Touch.drew {S : Nat → Prop} {a b : World} (h : Touch S a b) : Touch S a b.drew := ⟨h.os, h.tape, h.output, h.size, h.block⟩
theorem Touch.drewN {S : Nat → Prop} {a b : World} (h : Touch S a b) (n : Nat) : Touch S a (b.drewN n) := ⟨h.os, h.tape, h.output, h.size, h.block⟩
theorem Touch.alloc {S : Nat → Prop} {a b : World} (h : Touch S a b) (o : Obj) : Touch S a (b.alloc o) := h.trans (Touch.of_ext ((Ext.refl b).alloc o))
theorem Touch.below {S : Nat → Prop} {a b : World} {B : Nat} (h : Below B a b) (hs : ∀ k, k < a.heap.size → B ≤ k → S k) : Touch S a b :=
  ⟨h.os, h.tape, h.output, h.size, fun i hi hn => h.block i (Nat.lt_of_not_le fun hB => hn (hs i hi hB))⟩
theorem Touch.to_below {S : Nat → Prop} {a b : World} {B : Nat} (h : Touch S a b) (hB : B ≤ a.heap.size) (hs : ∀ k, S k → B ≤ k) : Below B a b :=
  ⟨h.os, h.tape, h.output, h.size, fun i hi => h.block i (Nat.lt_of_lt_of_le hi hB) (fun hS => by have := hs i hS; omega)⟩
theorem Touch.setCell {S : Nat → Prop} {a b : World} (h : Touch S a b) {p : Addr} (hp : S p.block ∨ a.heap.size ≤ p.block) (u : Value) : Touch S a (b.setCell p u) :=
  ⟨h.os, h.tape, h.output, by have := h.size; simp [World.setCell]; exact this, fun i hi hn => (Below.heap_setCell b p u i (fun e => by subst e; rcases hp with hp | hp; exact hn hp; omega)).trans (h.block i hi hn)⟩
theorem Touch.grown {S : Nat → Prop} {a b c : World} {row : Option Nat} (h : Touch S a b) (hg : b.grownBy c row) (hr : ∀ k, row = some k → S k ∨ a.heap.size ≤ k) : Touch S a c :=
  ⟨hg.os.trans h.os, hg.tape.trans h.tape, hg.output.trans h.output, Nat.le_trans h.size hg.size, fun i hi hn => (hg.block i (Nat.lt_of_lt_of_le hi h.size) (fun e => by
    rcases hr i e.symm with hr | hr
    · exact hn hr
    · omega)).trans (h.block i hi hn)⟩
theorem Touch.cell {S : Nat → Prop} {a b : World} (h : Touch S a b) {p : Addr} (hp : p.block < a.heap.size) (hs : ¬ S p.block) : b.cell? p = a.cell? p := World.cell?_of_block (h.block _ hp hs)
theorem Touch.frozen {S : Nat → Prop} {a b : World} (h : Touch S a b) {p : Addr} (hp : p.block < a.heap.size) (hs : ¬ S p.block) : b.frozen? p = a.frozen? p := World.frozen?_of_block (h.block _ hp hs)

theorem own_lt {α : Type} {E : Enc α} {w : World} {base : Nat} {e : TypeId} {v : Value} {l : List α} (h : Own E w base e v l) {k : Nat} (hk : v.ownBlock = some k) : base ≤ k ∧ k < w.heap.size := World.ownsRow.lt h k hk
theorem Own.touch {α : Type} {E : Enc α} {S : Nat → Prop} {w w' : World} {base : Nat} {e : TypeId} {v : Value} {l : List α} (h : Own E w base e v l) (t : Touch S w w') (hs : ∀ k, v.ownBlock = some k → ¬ S k) : Own E w' base e v l := by
  refine ⟨h.1, ?_⟩
  rcases h.2 with hn | ⟨g, cap, cur, rfl, hb, hg, rest⟩
  · exact .inl hn
  · exact .inr ⟨g, cap, cur, rfl, hb, (t.block g (lt_of_block hg) (hs g rfl)).trans hg, rest⟩
theorem ownsMap_touch {H : Type} {P : Program} {k : TypeId} {R : Value → Option (DataW H × List MemPlace)} {S : Nat → Prop} {w w' : World} {b n : Nat} {D : DataW H} (h : w.ownsMap P k R b n D) (t : Touch S w w') (hs : ¬ S b) : w'.ownsMap P k R b n D := by
  have hlt := h.lt
  obtain ⟨es, clock, hb, r⟩ := h
  exact ⟨es, clock, (t.block b hlt hs).trans hb, r⟩

/-- Block g is just the cells cs, none frozen. -/
def Blk (w : World) (g : Nat) (t : TypeId) (cs : Array Value) : Prop := w.heap[g]? = some (.cells cs t (0, 0))
theorem Blk.lt {w : World} {g : Nat} {t : TypeId} {cs : Array Value} (h : Blk w g t cs) : g < w.heap.size := lt_of_block h
theorem Blk.cell {w : World} {g : Nat} {t : TypeId} {cs : Array Value} (h : Blk w g t cs) (i : Nat) : w.cell? ⟨g, i, none⟩ = cs[i]? := by
  unfold Blk at h; simp [World.cell?, h]
theorem Blk.frozen {w : World} {g : Nat} {t : TypeId} {cs : Array Value} (h : Blk w g t cs) (i : Nat) : w.frozen? ⟨g, i, none⟩ = false := by
  unfold Blk at h; simp [World.frozen?, h]
theorem Blk.new (w : World) (t : TypeId) (cs : Array Value) : Blk (w.alloc (.cells cs t)) w.heap.size t cs := heap_alloc_new w _
theorem Blk.touch {S : Nat → Prop} {w w' : World} {g : Nat} {t : TypeId} {cs : Array Value} (h : Blk w g t cs) (k : Touch S w w') (hs : ¬ S g) : Blk w' g t cs := (k.block g h.lt hs).trans h
theorem Blk.ext {w w' : World} {g : Nat} {t : TypeId} {cs : Array Value} (h : Blk w g t cs) (k : Ext w w') : Blk w' g t cs := (k.block h.lt).trans h
theorem Blk.set_ {w : World} {g : Nat} {t : TypeId} {cs : Array Value} (h : Blk w g t cs) (i : Nat) (u : Value) : Blk (w.setCell ⟨g, i, none⟩ u) g t (cs.setIfInBounds i u) := by
  unfold Blk at h ⊢
  simp [World.setCell, Array.getElem?_modify, h]
theorem Blk.far {w : World} {g : Nat} {t : TypeId} {cs : Array Value} (h : Blk w g t cs) {p : Addr} (hp : g ≠ p.block) (u : Value) : Blk (w.setCell p u) g t cs := (Below.heap_setCell w p u g hp).trans h
theorem Blk.ne_own {α : Type} {E : Enc α} {w : World} {base g : Nat} {e t : TypeId} {cs : Array Value} {v : Value} {l : List α} (h : Blk w g t cs) (o : Own E w base e v l) (hne : e ≠ t) : v.ownBlock ≠ some g := by
  rcases o.2 with ⟨rfl, _⟩ | ⟨g', cap, cur, rfl, _, hg, _⟩
  · simp [Value.ownBlock]
  · intro he
    have e' : g' = g := by simpa [Value.ownBlock] using he
    subst e'
    unfold Blk at h
    rw [hg] at h
    injection h with h
    injection h with _ ht
    exact hne ht
theorem Blk.ne_map {H : Type} {P : Program} {k : TypeId} {R : Value → Option (DataW H × List MemPlace)} {w : World} {g : Nat} {t : TypeId} {cs : Array Value} {b n : Nat} {D : DataW H} (h : Blk w g t cs) (o : w.ownsMap P k R b n D) : g ≠ b := by
  obtain ⟨es, clock, hb, _⟩ := o
  rintro rfl
  unfold Blk at h
  rw [hb] at h
  injection h with h
  cases h
theorem own_ne_map {H : Type} {P : Program} {k : TypeId} {R : Value → Option (DataW H × List MemPlace)} {α : Type} {E : Enc α} {w : World} {base : Nat} {e : TypeId} {v : Value} {l : List α} {b n : Nat} {D : DataW H} (h : Own E w base e v l) (o : w.ownsMap P k R b n D) : v.ownBlock ≠ some b := by
  obtain ⟨es, clock, hb, _⟩ := o
  rcases h.2 with ⟨rfl, _⟩ | ⟨g', cap, cur, rfl, _, hg, _⟩
  · simp [Value.ownBlock]
  · intro he
    have e' : g' = b := by simpa [Value.ownBlock] using he
    subst e'
    rw [hb] at hg
    injection hg with hg
    cases hg

/-- append of one element to a row of the call's own: where the new row lies, and what was written. -/
theorem wpList_app_at {α : Type} (E : Enc α) {P : Program} {t e : TypeId} {z : Value} {bytes : Nat} (T : ElemT P t e z E.size bytes) {ops : Array Oper} {rest : List Oper} {o : Oper} {a : Act} {Q : Exit → Act → World → Prop}
    (hgd : o.guard = none) (s x : Operand) (ho : o.op = .call { callee := .builtin .append, args := #[s, x], argTypes := #[t, t] })
    (base : Nat) (w : World) (v : Value) (l : List α) (hs : a.eval s = v) (hown : Own E w base e v l)
    (y : α) (cs : Array Value) (e' : TypeId) (hcs : cs = (E.cells y).toArray) (b : Nat) (hb : b = w.heap.size) (hx : a.eval x = .slice (some ⟨b, 0, none⟩) 1 1)
    (hlen : (l.length + 1) * bytes ≤ 140737488355328) (hl : l.length ≤ 1000000000) (hbase : base ≤ w.heap.size)
    (h : ∀ g c w', Own E w' base e (.slice (some ⟨g, 0, none⟩) (l.length + 1) c) (l ++ [y]) → Touch (fun k => v.ownBlock = some k) w w' → (v.ownBlock = some g ∨ w.heap.size ≤ g) → wpList P ops Q rest (a.put o.dst (.slice (some ⟨g, 0, none⟩) (l.length + 1) c)) w') : wpList P ops Q (o :: rest) a (w.alloc (.cells cs e')) := by
  subst hb
  obtain ⟨i0, hi, hz0, hz1, hz2⟩ := info_parts T.info
  have hnews := cells_new w cs e'
  subst hcs
  refine wpList_append_own_at _ hgd s x t ho base e i0 z E.size bytes T.under hi hz0 hz1 hz2 T.zs T.pos v l.length (l.flatMap E.cells) hs (World.ownsRow.alloc hown _) ⟨w.heap.size, 0, none⟩ 1 1 (E.cells y) hx (by simp [E.len]) (by simpa using hnews) (E.one y) (by unfold maxLen; omega) hlen (by simp; omega) ?_
  intro v' w' hown' hg _ hloc
  have hown'' : Own E w' base e v' (l ++ [y]) := by unfold Own; simpa using hown'
  obtain ⟨g, c, rfl⟩ := hown''.cons
  refine h g c w' hown'' (((Touch.refl _ w).alloc _).grown hg (fun k hk => .inl hk)) ?_
  simp only [Value.ownBlock, World.size_alloc, Option.some.injEq] at hloc
  rcases hloc with hloc | hloc
  · exact .inl hloc.symm
  · exact .inr (by omega)
end Go.Proofs.Ytifbmapianddcaa
