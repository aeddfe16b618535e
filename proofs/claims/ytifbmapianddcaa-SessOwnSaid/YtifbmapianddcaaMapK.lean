/- Words of my own on maps of the call's own: an entry that is made and then filled (as a tuple assignment to map elements does). -/
import Derived.Test.YtifbmapianddcaaLib
import Derived.WideKeyEntry
set_option linter.all false
set_option linter.unusedVariables false
set_option linter.unusedSimpArgs false
namespace Go.Proofs.Ytifbmapianddcaa
open Go.RowKit Go.ChangeMaps Go.MapKept Go.WideElems
open Go.Maps (Keyed)

theorem turned_touch {w w' : World} {b : Nat} (h : w.mapTurned w' b) {S : Nat → Prop} (hs : S b) : Touch S w w' := (Touch.refl S w).grown h.grown (fun k hk => .inl (by cases hk; exact hs))

theorem entry_new {H : Type} {P : Program} {k e t : TypeId} {R : Value → Option (DataW H × List MemPlace)} {w : World} {b n : Nat} {D : DataW H} (h : w.ownsMap P k R b n D) (K : Keyed P k) (ht : P.underlying t = some (.map k e)) {z : Value} (hz : ∀ u : World, (zeroValue e).run P u = .ok z u) (hn : n < maxLen)
    {key val : Value} {kl : Lit} {d : DataW H} {ps : List MemPlace} (hkey : keyOf P k key = some kl) (hno : Maps.has D kl = false) (hv : R val = some (d, ps)) :
    ∃ (st : Nat) (w1 w2 : World), (Instr.mapEntry t (.map (some b)) key).run P w = .ok (.tuple #[z, .int .i64 st]) w1 ∧ w.mapTurned w1 b ∧
      (Instr.entryStore t (.map (some b)) (.int .i64 st) val).run P w1 = .ok () w2 ∧ w2.ownsMap P k R b (n + 1) (D.put kl d) ∧ w.mapTurned w2 b := by
  obtain ⟨w', hrun, r1, r2⟩ := h.store K ht hn hkey hv
  obtain ⟨es, clock, hb, F, hs, rfl⟩ := h
  obtain ⟨s1, s2, _⟩ := F.stamped
  rcases Maps.fit_look true K ht (hz w) hb F hkey with ⟨_, h2, _⟩ | ⟨e0, y, _, _, _, _, hat, _⟩
  · rcases K.find w hkey es.toList F.keys with ⟨h1, _⟩ | ⟨j, e0, _, g2, g3⟩
    · have hb1 : (setBlock w b (.map (es.push ⟨key, z, clock⟩) (clock + 1))).heap[b]? = some (.map (es.push ⟨key, z, clock⟩) (clock + 1)) := heap_setBlock_same hb _
      have hidx : (es.push ⟨key, z, clock⟩).findIdx? (fun e => ((e.born : Nat) : Int) == ((clock : Nat) : Int)) = some es.size := by
        rw [findIdx_arr]
        have := findIdx_born (l := (es.push ⟨key, z, clock⟩).toList) (j := es.size) (e0 := ⟨key, z, clock⟩) (by
          simp only [Array.toList_push, List.map_append, List.map_cons, List.map_nil]
          refine List.nodup_append.2 ⟨s2, by simp, fun a ha c hc e1 => ?_⟩
          simp only [List.mem_singleton] at hc
          obtain ⟨x, hx, rfl⟩ := List.mem_map.1 ha
          have := s1 x hx
          omega) (by simp)
        exact this
      have hmod : (es.push ⟨key, z, clock⟩).modify es.size (fun e => { e with val := val }) = es.push ⟨key, val, clock⟩ := by
        apply Array.ext'
        rw [Array.toList_modify, Array.toList_push, Array.toList_push, ← Array.length_toList, modify_last]
      have hrun' : (Instr.mapUpdate t (.map (some b)) key val).run P w = .ok () (setBlock w b (.map (es.push ⟨key, val, clock⟩) (clock + 1))) := by
        simp [Instr.mapUpdate, run_underlying ht, MapKept.run_getObj_map hb, K.check w false hkey, h1, MapKept.run_setObj_map _ hb, Result.andThen, setBlock]
      rw [hrun] at hrun'
      simp only [Result.ok.injEq, true_and] at hrun'
      subst hrun'
      refine ⟨clock, setBlock w b (.map (es.push ⟨key, z, clock⟩) (clock + 1)), _, ?_, ⟨es, clock, _, _, hb, rfl⟩, ?_, r1, r2⟩
      · simp [Instr.mapEntry, run_underlying ht, MapKept.run_getObj_map hb, K.check w false hkey, h1, hz, MapKept.run_setObj_map _ hb, Result.andThen, setBlock, goInt]
      · simp [Instr.entryStore, MapKept.run_getObj_map hb1, asInt, asIntOf, hidx, hmod, MapKept.run_setObj_map _ hb1, Result.andThen]
        simp [setBlock]
    · exact absurd g3 (h2 e0 (List.mem_of_getElem? g2))
  · rw [Maps.has_true_of_atKey hat] at hno
    cases hno

/-! ### maps from uint64 to int, as functions -/
def U64 (x : Int) : Prop := (Lit.int .u64 x).wf = true
def I64 (x : Int) : Prop := (Lit.int .i64 x).wf = true

theorem keyed64 : Keyed Try.prog 38 := Maps.int_keyed Try.underlying38
theorem zero64 (w : World) : (zeroValue 3).run Try.prog w = .ok (.int .i64 0) w := by kernel_rfl
theorem kelit {q : IntKind} {x : Int} : WideAt.IsKeyLit (.int q x) := trivial

/-- Block b is a map of N entries; which they are, f says. -/
def MapIs (w : World) (b : Nat) (f : Int → Option Int) (N : Nat) : Prop :=
  ∃ D : DataW Unit, w.ownsMap Try.prog 38 (plainElem Try.prog 3) b N D ∧ Maps.size D = N ∧ ∀ x, Maps.has D (.int .u64 x) = (f x).isSome ∧ ∀ c, f x = some c → D.atKey (.int .u64 x) (.lit (.int .i64 0)) = .lit (.int .i64 c)

theorem MapIs.made (w : World) : MapIs (w.alloc (.map #[] 0)) w.heap.size (fun _ => none) 0 :=
  ⟨.map [], World.ownsMap_made _ _ _ _, rfl, fun x => ⟨rfl, fun c hc => by cases hc⟩⟩
theorem MapIs.lt {w : World} {b N : Nat} {f : Int → Option Int} (h : MapIs w b f N) : b < w.heap.size := by obtain ⟨D, h, _⟩ := h; exact h.lt
theorem MapIs.touch {S : Nat → Prop} {w w' : World} {b N : Nat} {f : Int → Option Int} (h : MapIs w b f N) (t : Touch S w w') (hs : ¬ S b) : MapIs w' b f N := by
  obtain ⟨D, h1, h2⟩ := h
  exact ⟨D, ownsMap_touch h1 t hs, h2⟩
theorem MapIs.ext {w w' : World} {b N : Nat} {f : Int → Option Int} (h : MapIs w b f N) (t : Ext w w') : MapIs w' b f N := h.touch (Touch.of_ext (S := fun _ => False) t) (fun x => x)
theorem MapIs.congr {w : World} {b N : Nat} {f g : Int → Option Int} (h : MapIs w b f N) (e : ∀ x, f x = g x) : MapIs w b g N := by
  have : f = g := funext e
  rwa [← this]

theorem exact_size {H : Type} {P : Program} {k : TypeId} {R : Value → Option (DataW H × List MemPlace)} {w : World} {b n : Nat} {D : DataW H} (h : w.ownsMap P k R b n D) : w.ownsMap P k R b (Maps.size D) D := by
  obtain ⟨es, clock, hb, F, _, rfl⟩ := h
  exact ⟨es, clock, hb, F, by simp [Maps.size, length_sorted], rfl⟩

theorem MapIs.put {w2 : World} {b N : Nat} {f : Int → Option Int} {D : DataW Unit} {x c : Int} (hs : Maps.size D = N) (hf : ∀ x, Maps.has D (.int .u64 x) = (f x).isSome ∧ ∀ c, f x = some c → D.atKey (.int .u64 x) (.lit (.int .i64 0)) = .lit (.int .i64 c)) (tidy : Maps.Tidy D)
    (hno : f x = none) (h : w2.ownsMap Try.prog 38 (plainElem Try.prog 3) b (N + 1) (D.put (.int .u64 x) (.lit (.int .i64 c)))) : MapIs w2 b (fun y => if y = x then some c else f y) (N + 1) := by
  refine ⟨_, h, ?_, fun y => ?_⟩
  · rw [Maps.size_put tidy, (hf x).1, hno, hs]; rfl
  · by_cases hy : y = x
    · subst hy
      rw [Maps.has_put_same tidy.isMap kelit]
      simp only [if_true]
      exact ⟨rfl, fun c' hc => by cases hc; exact Maps.atKey_put_same tidy.isMap kelit _ _⟩
    · have hne : (Lit.int .u64 y) ≠ .int .u64 x := by simpa using hy
      rw [Maps.has_put_other hne]
      simp only [if_neg hy]
      exact ⟨(hf y).1, fun c' hc => by rw [Maps.atKey_put_other hne]; exact (hf y).2 c' hc⟩

/-- An entry that was not there is made and filled. -/
theorem MapIs.entry {w : World} {b N : Nat} {f : Int → Option Int} (h : MapIs w b f N) {x c : Int} (hx : U64 x) (hc : I64 c) (hN : N ≤ 1000000) (hno : f x = none) :
    ∃ (st : Nat) (w1 w2 : World), (Instr.mapEntry 147 (.map (some b)) (.int .u64 x)).run Try.prog w = .ok (.tuple #[.int .i64 0, .int .i64 st]) w1 ∧ Touch (fun k => k = b) w w1 ∧
      (Instr.entryStore 147 (.map (some b)) (.int .i64 st) (.int .i64 c)).run Try.prog w1 = .ok () w2 ∧ MapIs w2 b (fun y => if y = x then some c else f y) (N + 1) ∧ Touch (fun k => k = b) w w2 := by
  obtain ⟨D, h1, h2, h3⟩ := h
  have tidy := h1.tidy keyed64
  obtain ⟨st, w1, w2, e1, t1, e2, o2, t2⟩ := entry_new h1 keyed64 Try.underlying147 zero64 (by unfold maxLen; omega) (Maps.keyOf_int_mk Try.underlying38 hx) (by rw [(h3 x).1, hno]; rfl) (plainElem_int (H := Unit) Try.underlying3 hc)
  exact ⟨st, w1, w2, e1, turned_touch t1 rfl, e2, MapIs.put h2 h3 tidy hno o2, turned_touch t2 rfl⟩

section
variable (w : World) {ops : Array Oper} {rest : List Oper} {o : Oper} {a : Act} {Q : Exit → Act → World → Prop}

/-- 'v, ok := m[k]'. -/
theorem wpList_look (hg : o.guard = none) (m x : Operand) (hop : o.op = Op.lookup 147 m x true) (b N : Nat) (f : Int → Option Int) (hm : a.eval m = .map (some b)) (hown : MapIs w b f N) (k : Int) (hx : a.eval x = .int .u64 k) (hk : U64 k)
    (hK : ∀ c : Int, (∀ c', f k = some c' → c = c') → wpList Try.prog ops Q rest (a.put o.dst (.tuple #[.int .i64 c, .bool (f k).isSome])) w) : wpList Try.prog ops Q (o :: rest) a w := by
  obtain ⟨D, h1, h2, h3⟩ := hown
  refine wpList_lookup_own_ok_int w hg m x 147 hop 38 3 .i64 keyed64 Try.underlying147 Try.underlying3 (zero64 w) b N D hm h1 _ _ hx (Maps.keyOf_int_mk Try.underlying38 hk) ?_
  intro c hat _
  rw [(h3 k).1]
  refine hK c fun c' hc => ?_
  have := (h3 k).2 c' hc
  rw [this] at hat
  simpa using hat.symm

/-- 'len(m)'. -/
theorem wpList_lenm (hg : o.guard = none) (m : Operand) (hop : o.op = Op.call { callee := Callee.builtin Builtin.len, args := #[m], argTypes := #[147] }) (b N : Nat) (f : Int → Option Int) (hm : a.eval m = .map (some b)) (hown : MapIs w b f N)
    (hK : wpList Try.prog ops Q rest (a.put o.dst (.int .i64 N)) w) : wpList Try.prog ops Q (o :: rest) a w := by
  obtain ⟨D, h1, h2, h3⟩ := hown
  refine wpList_len_own w hg m 147 hop 38 3 Try.underlying147 _ b N D hm h1 ?_
  rw [h2]; exact hK

/-- 'delete(m, k)' of a key that is there. -/
theorem wpList_del (hg : o.guard = none) (m x : Operand) (hop : o.op = Op.call { callee := Callee.builtin Builtin.delete, args := #[m, x], argTypes := #[147, 38] }) (b N : Nat) (f : Int → Option Int) (hm : a.eval m = .map (some b)) (hown : MapIs w b f N) (k : Int) (hx : a.eval x = .int .u64 k) (hk : U64 k) (hin : (f k).isSome = true)
    (hK : ∀ w', MapIs w' b (fun y => if y = k then none else f y) (N - 1) → Touch (fun j => j = b) w w' → wpList Try.prog ops Q rest (a.put o.dst (.tuple #[])) w') : wpList Try.prog ops Q (o :: rest) a w := by
  obtain ⟨D, h1, h2, h3⟩ := hown
  have tidy := h1.tidy keyed64
  refine wpList_delete_own w hg m x 147 38 hop 3 keyed64 Try.underlying147 _ b N D hm h1 _ _ hx (Maps.keyOf_int_mk Try.underlying38 hk) ?_
  intro w' o' t'
  have hsz : Maps.size (D.del (.int .u64 k)) = N - 1 := by
    have := Maps.size_del (k := Lit.int .u64 k) tidy
    rw [(h3 k).1, hin, h2] at this
    simp at this
    omega
  refine hK w' ⟨_, hsz ▸ exact_size o', hsz, fun y => ?_⟩ (turned_touch t' rfl)
  by_cases hy : y = k
  · subst hy
    rw [Maps.has_del_same]
    simp only [if_true]
    exact ⟨rfl, fun c hc => by cases hc⟩
  · have hne : (Lit.int .u64 y) ≠ .int .u64 k := by simpa using hy
    rw [Maps.has_del_other hne]
    simp only [if_neg hy]
    exact ⟨(h3 y).1, fun c hc => by rw [Maps.atKey_del_other hne]; exact (h3 y).2 c hc⟩
end
end Go.Proofs.Ytifbmapianddcaa
