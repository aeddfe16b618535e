/- Part 2 of 14 of the proof of StarBudget. -/
import Derived.Test.YtkonojjillcfiaaStarBudgetP01
import Derived.WideKeyEntry
set_option linter.all false
set_option linter.unusedVariables false
set_option linter.unusedSimpArgs false
/- Plain laws of a binary heap of numbered things with keys, kept in a list. -/
namespace Go.Proofs.Ytkonojjillcfiaa

abbrev HKey := (Int × Int) × (Int × Int)
abbrev Thing := Int × HKey

def lessB (a b : HKey) : Bool := if a.1.1 = b.1.1 then (if a.1.2 = b.1.2 then (if a.2.1 = b.2.1 then decide (a.2.2 < b.2.2) else decide (a.2.1 < b.2.1)) else decide (a.1.2 < b.1.2)) else decide (a.1.1 < b.1.1)
def aheadB (a b : Thing) : Bool := if a.2 = b.2 then decide (a.1 < b.1) else lessB a.2 b.2

theorem lessB_iff {a b : HKey} : lessB a b = true ↔ a.1.1 < b.1.1 ∨ a.1.1 = b.1.1 ∧ (a.1.2 < b.1.2 ∨ a.1.2 = b.1.2 ∧ (a.2.1 < b.2.1 ∨ a.2.1 = b.2.1 ∧ a.2.2 < b.2.2)) := by
  unfold lessB
  repeat' split
  all_goals simp only [decide_eq_true_eq]
  all_goals omega
theorem key_eq {a b : HKey} : a = b ↔ a.1.1 = b.1.1 ∧ a.1.2 = b.1.2 ∧ a.2.1 = b.2.1 ∧ a.2.2 = b.2.2 := by
  obtain ⟨⟨a1, a2⟩, a3, a4⟩ := a
  obtain ⟨⟨b1, b2⟩, b3, b4⟩ := b
  simp [and_assoc]
theorem ahead_iff {a b : Thing} : aheadB a b = true ↔ a.2.1.1 < b.2.1.1 ∨ a.2.1.1 = b.2.1.1 ∧ (a.2.1.2 < b.2.1.2 ∨ a.2.1.2 = b.2.1.2 ∧ (a.2.2.1 < b.2.2.1 ∨ a.2.2.1 = b.2.2.1 ∧ (a.2.2.2 < b.2.2.2 ∨ a.2.2.2 = b.2.2.2 ∧ a.1 < b.1))) := by
  unfold aheadB
  split
  · rename_i h
    rw [key_eq] at h
    rw [decide_eq_true_eq]
    omega
  · rename_i h
    rw [key_eq] at h
    rw [lessB_iff]
    omega

/-- a does not come behind b. -/
def Le (a b : Thing) : Prop := aheadB b a = false
theorem Le.refl (a : Thing) : Le a a := by
  unfold Le
  cases h : aheadB a a
  · rfl
  · rw [ahead_iff] at h; omega
theorem le_iff {a b : Thing} : Le a b ↔ ¬ (b.2.1.1 < a.2.1.1 ∨ b.2.1.1 = a.2.1.1 ∧ (b.2.1.2 < a.2.1.2 ∨ b.2.1.2 = a.2.1.2 ∧ (b.2.2.1 < a.2.2.1 ∨ b.2.2.1 = a.2.2.1 ∧ (b.2.2.2 < a.2.2.2 ∨ b.2.2.2 = a.2.2.2 ∧ b.1 < a.1)))) := by
  rw [← ahead_iff]; unfold Le; simp
theorem Le.trans {a b c : Thing} (h : Le a b) (k : Le b c) : Le a c := by
  rw [le_iff] at *
  omega
theorem le_of_ahead {a b : Thing} (h : aheadB a b = true) : Le a b := by
  rw [ahead_iff] at h
  rw [le_iff]
  omega
theorem le_of_less {a b : Thing} (h : lessB a.2 b.2 = true) : Le a b := by
  rw [lessB_iff] at h
  rw [le_iff]
  omega

/-! ### lists -/
def T0 : Thing := (0, ((0, 0), (0, 0)))
def tat (l : List Thing) (i : Nat) : Thing := l.getD i T0
theorem tat_lt {l : List Thing} {i : Nat} (h : i < l.length) : tat l i = l[i] := by simp [tat, h]
def swp (l : List Thing) (i j : Nat) : List Thing := (l.set i (tat l j)).set j (tat l i)
theorem swp_len (l : List Thing) (i j : Nat) : (swp l i j).length = l.length := by simp [swp]
theorem tat_swp {l : List Thing} {i j : Nat} (hi : i < l.length) (hj : j < l.length) (k : Nat) : tat (swp l i j) k = if k = j then tat l i else if k = i then tat l j else tat l k := by
  unfold swp tat
  simp only [List.getD_eq_getElem?_getD, List.getElem?_set, List.length_set]
  by_cases h1 : j = k
  · subst h1; simp [hj]
  · have h1' : ¬ k = j := fun e => h1 e.symm
    by_cases h2 : i = k
    · subst h2; simp [h1, h1', hi]
    · have h2' : ¬ k = i := fun e => h2 e.symm
      simp [h1, h2, h1', h2']
theorem swp_perm {l : List Thing} {i j : Nat} (hi : i < l.length) (hj : j < l.length) : (swp l i j).Perm l := by
  have h := Array.swap_perm (xs := l.toArray) (i := i) (j := j) (by simpa using hi) (by simpa using hj)
  have e : (l.toArray.swap i j (by simpa using hi) (by simpa using hj)).toList = swp l i j := by
    rw [Array.toList_swap]
    simp [swp, tat_lt hi, tat_lt hj]
  rw [← e]
  simpa using h.toList

def par (j : Nat) : Nat := (j - 1) / 2
theorem par_lt {j : Nat} (h : 0 < j) : par j < j := by unfold par; omega

def HeapOk (l : List Thing) : Prop := ∀ j, 0 < j → j < l.length → Le (tat l (par j)) (tat l j)
/-- A heap but for the thing at i, which may be too small. -/
def RiseOk (l : List Thing) (i : Nat) : Prop := (∀ j, 0 < j → j < l.length → j ≠ i → Le (tat l (par j)) (tat l j)) ∧ ∀ j, 0 < j → j < l.length → par j = i → 0 < i → Le (tat l (par i)) (tat l j)
/-- A heap but for the thing at i, which may be too great. -/
def SinkOk (l : List Thing) (i : Nat) : Prop := (∀ j, 0 < j → j < l.length → par j ≠ i → Le (tat l (par j)) (tat l j)) ∧ ∀ j, 0 < j → j < l.length → par j = i → 0 < i → Le (tat l (par i)) (tat l j)

theorem rise_end {l : List Thing} {i : Nat} (h : RiseOk l i) (he : i = 0 ∨ aheadB (tat l i) (tat l (par i)) = false) : HeapOk l := by
  intro j h0 hj
  by_cases e : j = i
  · subst e
    rcases he with he | he
    · omega
    · exact he
  · exact h.1 j h0 hj e

theorem rise_step {l : List Thing} {i : Nat} (h : RiseOk l i) (h0 : 0 < i) (hi : i < l.length) (ha : aheadB (tat l i) (tat l (par i)) = true) : RiseOk (swp l i (par i)) (par i) := by
  have hp := par_lt h0
  have A := tat_swp (l := l) hi (j := par i) (by omega)
  have hle := le_of_ahead ha
  refine ⟨fun j j0 hj hne => ?_, fun j j0 hj hpj hpp => ?_⟩
  · rw [swp_len] at hj
    rw [A, A, if_neg hne]
    by_cases e : j = i
    · subst e
      rw [if_pos rfl, if_pos rfl]; exact hle
    · rw [if_neg e]
      by_cases e2 : par j = par i
      · rw [if_pos e2]
        have := h.1 j j0 hj e
        rw [e2] at this
        exact hle.trans this
      · rw [if_neg e2]
        by_cases e3 : par j = i
        · rw [if_pos e3]; exact h.2 j j0 hj e3 h0
        · rw [if_neg e3]; exact h.1 j j0 hj e
  · rw [swp_len] at hj
    have hq := par_lt hpp
    rw [A, A, if_neg (by omega), if_neg (by omega)]
    have up := h.1 (par i) hpp (by omega) (by omega)
    by_cases e : j = i
    · subst e
      rw [if_neg (by omega), if_pos rfl]; exact up
    · have : j ≠ par i := by have := par_lt j0; omega
      rw [if_neg this, if_neg e]
      have k := h.1 j j0 hj e
      rw [hpj] at k
      exact up.trans k

theorem sink_end {l : List Thing} {i : Nat} (h : SinkOk l i) (hm : ∀ j, 0 < j → j < l.length → par j = i → Le (tat l i) (tat l j)) : HeapOk l := by
  intro j j0 hj
  by_cases e : par j = i
  · rw [e]; exact hm j j0 hj e
  · exact h.1 j j0 hj e

theorem sink_step {l : List Thing} {i c : Nat} (h : SinkOk l i) (hi : i < l.length) (hc : c < l.length) (c0 : 0 < c) (hp : par c = i) (hci : Le (tat l c) (tat l i)) (hm : ∀ j, 0 < j → j < l.length → par j = i → Le (tat l c) (tat l j)) : SinkOk (swp l i c) c := by
  have hlt := par_lt c0
  have A := tat_swp (l := l) hi hc
  refine ⟨fun j j0 hj hne => ?_, fun j j0 hj hpj _ => ?_⟩
  · rw [swp_len] at hj
    rw [A, A, if_neg hne]
    by_cases e : j = c
    · subst e
      rw [if_pos rfl, if_pos hp]; exact hci
    · rw [if_neg e]
      by_cases e2 : par j = i
      · have : j ≠ i := by have := par_lt j0; omega
        rw [if_pos e2, if_neg this]; exact hm j j0 hj e2
      · rw [if_neg e2]
        by_cases e3 : j = i
        · subst e3
          rw [if_pos rfl]; exact h.2 c c0 hc hp j0
        · rw [if_neg e3]; exact h.1 j j0 hj e2
  · rw [swp_len] at hj
    have hj' := par_lt j0
    rw [A, A, if_neg (by omega), if_pos hp, if_neg (by omega), if_neg (by omega)]
    have := h.1 j j0 hj (by omega)
    rwa [hpj] at this

theorem heap_min {l : List Thing} (h : HeapOk l) (j : Nat) (hj : j < l.length) : Le (tat l 0) (tat l j) := by
  induction j using Nat.strongRecOn with
  | _ j ih =>
    by_cases h0 : j = 0
    · subst h0; exact Le.refl _
    · have hp := par_lt (j := j) (by omega)
      exact (ih (par j) hp (by omega)).trans (h j (by omega) hj)

theorem tat_take {l : List Thing} {n k : Nat} (hk : k < n) : tat (l.take n) k = tat l k := by
  unfold tat
  simp [List.getD_eq_getElem?_getD, hk]
theorem pop_sink {l : List Thing} (h : HeapOk l) (n : Nat) (hn : l.length = n + 1) : SinkOk ((swp l 0 n).take n) 0 := by
  have A := tat_swp (l := l) (i := 0) (j := n) (by omega) (by omega)
  have hl : ((swp l 0 n).take n).length = n := by rw [List.length_take, swp_len]; omega
  refine ⟨fun j j0 hj hne => ?_, fun j j0 hj hpj h0 => by omega⟩
  rw [hl] at hj
  have hp := par_lt j0
  rw [tat_take (by omega), tat_take hj, A, A, if_neg (by omega), if_neg hne, if_neg (by omega), if_neg (by omega)]
  exact h j j0 (by omega)

theorem tat_snoc {l : List Thing} {t : Thing} {k : Nat} (hk : k < l.length) : tat (l ++ [t]) k = tat l k := by
  unfold tat
  simp [List.getD_eq_getElem?_getD, List.getElem?_append_left hk]
theorem push_rise {l : List Thing} (h : HeapOk l) (t : Thing) : RiseOk (l ++ [t]) l.length := by
  refine ⟨fun j j0 hj hne => ?_, fun j j0 hj hpj h0 => ?_⟩
  · simp at hj
    have hp := par_lt j0
    rw [tat_snoc (by omega), tat_snoc (by omega)]
    exact h j j0 (by omega)
  · simp at hj
    have hp := par_lt j0
    omega

theorem tat_set {l : List Thing} {i : Nat} {t : Thing} (hi : i < l.length) (k : Nat) : tat (l.set i t) k = if k = i then t else tat l k := by
  unfold tat
  simp only [List.getD_eq_getElem?_getD, List.getElem?_set]
  by_cases h : i = k
  · subst h; simp [hi]
  · have h' : ¬ k = i := fun e => h e.symm
    simp [h, h']
theorem lower_rise {l : List Thing} (h : HeapOk l) {i : Nat} (hi : i < l.length) {t : Thing} (ht : Le t (tat l i)) : RiseOk (l.set i t) i := by
  have A := tat_set (l := l) (t := t) hi
  refine ⟨fun j j0 hj hne => ?_, fun j j0 hj hpj h0 => ?_⟩
  · simp at hj
    rw [A, A, if_neg hne]
    have := h j j0 hj
    by_cases e : par j = i
    · rw [if_pos e]; rw [e] at this; exact ht.trans this
    · rw [if_neg e]; exact this
  · simp at hj
    have hp := par_lt j0
    have hq := par_lt h0
    rw [A, A, if_neg (by omega), if_neg (by omega)]
    have k1 := h j j0 hj
    rw [hpj] at k1
    exact (h i h0 hi).trans k1

/-! ### where each thing stands -/
def posO (l : List Int) (x : Int) : Option Int := (l.findIdx? (· == x)).map fun i : Nat => (i : Int)
def ids (l : List Thing) : List Int := l.map (·.1)
theorem ids_len (l : List Thing) : (ids l).length = l.length := by simp [ids]
theorem ids_get {l : List Thing} {i : Nat} (h : i < l.length) : (ids l)[i]? = some (tat l i).1 := by simp [ids, h, tat_lt h]

theorem posO_some {l : List Int} {x : Int} : (posO l x).isSome = decide (x ∈ l) := by
  unfold posO
  rw [Option.isSome_map, List.findIdx?_isSome, Bool.eq_iff_iff]
  simp [List.any_eq_true]
theorem posO_none {l : List Int} {x : Int} (h : x ∉ l) : posO l x = none := by
  have := posO_some (l := l) (x := x)
  cases hh : posO l x
  · rfl
  · rw [hh] at this; simp [h] at this
theorem posO_at {l : List Int} (hn : l.Nodup) {i : Nat} {x : Int} (h : l[i]? = some x) : posO l x = some (i : Int) := by
  unfold posO
  obtain ⟨hi, hx⟩ := List.getElem?_eq_some_iff.1 h
  have : l.findIdx? (· == x) = some i := by
    rw [List.findIdx?_eq_some_iff_getElem]
    refine ⟨hi, by simp [hx], fun j hj => ?_⟩
    have hne : l[j]'(by omega) ≠ l[i] := fun e => by
      have := (List.getElem_inj (h₀ := (by omega : j < l.length)) (h₁ := hi) hn).1 e
      omega
    simpa [hx] using hne
  rw [this]; rfl
theorem posO_inv {l : List Int} {x c : Int} (h : posO l x = some c) : ∃ i : Nat, c = i ∧ l[i]? = some x := by
  unfold posO at h
  obtain ⟨i, hi, rfl⟩ := Option.map_eq_some_iff.1 h
  obtain ⟨hlt, hx, _⟩ := List.findIdx?_eq_some_iff_getElem.1 hi
  exact ⟨i, rfl, by rw [List.getElem?_eq_getElem hlt]; simpa using hx⟩

/-- Two lists of the same numbers, none twice: where they stand is told by one list's places. -/
theorem posO_ext {l : List Int} (hn : l.Nodup) {f : Int → Option Int} (h1 : ∀ (i : Nat) (x : Int), l[i]? = some x → f x = some (i : Int)) (h2 : ∀ x, x ∉ l → f x = none) (x : Int) : f x = posO l x := by
  by_cases hx : x ∈ l
  · obtain ⟨i, hi, rfl⟩ := List.getElem_of_mem hx
    have e : l[i]? = some l[i] := List.getElem?_eq_getElem hi
    rw [h1 i _ e, posO_at hn e]
  · rw [h2 x hx, posO_none hx]

theorem ids_perm {l m : List Thing} (h : l.Perm m) : (ids l).Perm (ids m) := h.map _
end Go.Proofs.Ytkonojjillcfiaa

/- Words of my own on maps from numbers to numbers, of whatever kinds: a map told as a function; its laws at the operations. -/
namespace Go.Proofs.Ytkonojjillcfiaa
open Go.RowKit Go.ChangeMaps Go.MapKept Go.WideElems
open Go.Maps (Keyed)

theorem turned_touchG {w w' : World} {b : Nat} (h : w.mapTurned w' b) {S : Nat → Prop} (hs : S b) : Touch S w w' := (Touch.refl S w).grown h.grown (fun k hk => .inl (by cases hk; exact hs))

/-- An entry is made, or found, and then filled, as a tuple assignment does: the same as a plain store. -/
theorem entry_any {H : Type} {P : Program} {k e t : TypeId} {R : Value → Option (DataW H × List MemPlace)} {w : World} {b n : Nat} {D : DataW H} (h : w.ownsMap P k R b n D) (K : Keyed P k) (ht : P.underlying t = some (.map k e)) {z : Value} (hz : ∀ u : World, (zeroValue e).run P u = .ok z u) (hn : n < maxLen)
    {key val : Value} {kl : Lit} {d : DataW H} {ps : List MemPlace} (hkey : keyOf P k key = some kl) (hv : R val = some (d, ps)) :
    ∃ (v0 : Value) (st : Nat) (w1 w2 : World), (Instr.mapEntry t (.map (some b)) key).run P w = .ok (.tuple #[v0, .int .i64 st]) w1 ∧ w.mapTurned w1 b ∧
      (Instr.entryStore t (.map (some b)) (.int .i64 st) val).run P w1 = .ok () w2 ∧ w2.ownsMap P k R b (n + 1) (D.put kl d) ∧ w.mapTurned w2 b := by
  obtain ⟨w', hrun, r1, r2⟩ := h.store K ht hn hkey hv
  obtain ⟨es, clock, hb, F, hs, rfl⟩ := h
  obtain ⟨s1, s2, _⟩ := F.stamped
  rcases K.find w hkey es.toList F.keys with ⟨h1, h2⟩ | ⟨j, e0, h1, h2, h3⟩
  · have hb1 : (setBlock w b (.map (es.push ⟨key, z, clock⟩) (clock + 1))).heap[b]? = some (.map (es.push ⟨key, z, clock⟩) (clock + 1)) := heap_setBlock_same hb _
    have hidx : (es.push ⟨key, z, clock⟩).findIdx? (fun e => ((e.born : Nat) : Int) == ((clock : Nat) : Int)) = some es.size := by
      rw [findIdx_arr]
      have := findIdx_born (l := (es.push ⟨key, z, clock⟩).toList) (j := es.size) (e0 := ⟨key, z, clock⟩) (by
        simp only [Array.toList_push, List.map_append, List.map_cons, List.map_nil]
        refine List.nodup_append.2 ⟨s2, by simp, fun a ha c hc e1 => ?_⟩
        simp only [List.mem_singleton] at hc
        obtain ⟨x, hx, rfl⟩ := List.mem_map.1 ha
        have := s1 x hx
        omega) (by simp)
      exact this
    have hmod : (es.push ⟨key, z, clock⟩).modify es.size (fun e => { e with val := val }) = es.push ⟨key, val, clock⟩ := by
      apply Array.ext'
      rw [Array.toList_modify, Array.toList_push, Array.toList_push, ← Array.length_toList, modify_last]
    have hrun' : (Instr.mapUpdate t (.map (some b)) key val).run P w = .ok () (setBlock w b (.map (es.push ⟨key, val, clock⟩) (clock + 1))) := by
      simp [Instr.mapUpdate, run_underlying ht, MapKept.run_getObj_map hb, K.check w false hkey, h1, MapKept.run_setObj_map _ hb, Result.andThen, setBlock]
    rw [hrun] at hrun'
    simp only [Result.ok.injEq, true_and] at hrun'
    subst hrun'
    refine ⟨z, clock, setBlock w b (.map (es.push ⟨key, z, clock⟩) (clock + 1)), _, ?_, ⟨es, clock, _, _, hb, rfl⟩, ?_, r1, r2⟩
    · simp [Instr.mapEntry, run_underlying ht, MapKept.run_getObj_map hb, K.check w false hkey, h1, hz, MapKept.run_setObj_map _ hb, Result.andThen, setBlock, goInt]
    · simp [Instr.entryStore, MapKept.run_getObj_map hb1, asInt, asIntOf, hidx, hmod, MapKept.run_setObj_map _ hb1, Result.andThen]
      simp [setBlock]
  · have hj : es[j]? = some e0 := by simpa using h2
    have hsame : es.modify j (fun e => { e with key := key }) = es := by
      apply Array.ext'
      rw [Array.toList_modify, modify_eq_set _ _ _ _ h2]
      have : ({ e0 with key := key } : MapEntry) = e0 := by rw [← h3]
      rw [this]
      exact set_self _ _ _ h2
    have hb1 : (setBlock w b (.map es clock)).heap[b]? = some (.map es clock) := heap_setBlock_same hb _
    have hidx : es.findIdx? (fun e => ((e.born : Nat) : Int) == ((e0.born : Nat) : Int)) = some j := by
      rw [findIdx_arr]
      exact findIdx_born s2 h2
    have hmod : es.modify j (fun e => { e with val := val }) = es.modify j (fun e' => { e' with key := key, val := val }) := by
      apply Array.ext'
      rw [Array.toList_modify, Array.toList_modify, modify_eq_set _ _ _ _ h2, modify_eq_set _ _ _ _ h2, ← h3]
    have hrun' : (Instr.mapUpdate t (.map (some b)) key val).run P w = .ok () (setBlock w b (.map (es.modify j (fun e' => { e' with key := key, val := val })) clock)) := by
      simp [Instr.mapUpdate, run_underlying ht, MapKept.run_getObj_map hb, K.check w false hkey, h1, hj, h3, K.stays w hkey, MapKept.run_setObj_map _ hb, Result.andThen, setBlock]
    rw [hrun] at hrun'
    simp only [Result.ok.injEq, true_and] at hrun'
    subst hrun'
    refine ⟨e0.val, e0.born, setBlock w b (.map es clock), _, ?_, ⟨es, clock, _, _, hb, rfl⟩, ?_, r1, r2⟩
    · simp [Instr.mapEntry, run_underlying ht, MapKept.run_getObj_map hb, K.check w false hkey, h1, hj, h3, K.stays w hkey, hsame, MapKept.run_setObj_map _ hb, Result.andThen, setBlock, goInt]
    · simp [Instr.entryStore, MapKept.run_getObj_map hb1, asInt, asIntOf, hidx, hmod, MapKept.run_setObj_map _ hb1, Result.andThen]
      simp [setBlock]

/-- The types of a map from numbers to numbers. -/
structure MapK where
  tm : TypeId
  tk : TypeId
  te : TypeId
  qk : IntKind
  qe : IntKind
structure MapK.Ok (P : Program) (K : MapK) : Prop where
  under : P.underlying K.tm = some (.map K.tk K.te)
  key : P.underlying K.tk = some (.int K.qk)
  elem : P.underlying K.te = some (.int K.qe)
  zero : ∀ w : World, (zeroValue K.te).run P w = .ok (.int K.qe 0) w

def Fits64 (q : IntKind) (x : Int) : Prop := (Lit.int q x).wf = true
theorem klit {q : IntKind} {x : Int} : WideAt.IsKeyLit (.int q x) := trivial

/-- Block b is a map of N entries; which they are, f says. -/
def MapIn (P : Program) (K : MapK) (w : World) (b : Nat) (f : Int → Option Int) (N : Nat) : Prop :=
  ∃ D : DataW Unit, w.ownsMap P K.tk (plainElem P K.te) b N D ∧ Maps.size D = N ∧ ∀ x, Maps.has D (.int K.qk x) = (f x).isSome ∧ ∀ c, f x = some c → D.atKey (.int K.qk x) (.lit (.int K.qe 0)) = .lit (.int K.qe c)

theorem exact_sizeG {H : Type} {P : Program} {k : TypeId} {R : Value → Option (DataW H × List MemPlace)} {w : World} {b n : Nat} {D : DataW H} (h : w.ownsMap P k R b n D) : w.ownsMap P k R b (Maps.size D) D := by
  obtain ⟨es, clock, hb, F, _, rfl⟩ := h
  exact ⟨es, clock, hb, F, by simp [Maps.size, length_sorted], rfl⟩

section
variable {P : Program} {K : MapK} {w w' : World} {b N : Nat} {f : Int → Option Int}
theorem MapIn.made (w : World) : MapIn P K (w.alloc (.map #[] 0)) w.heap.size (fun _ => none) 0 :=
  ⟨.map [], World.ownsMap_made _ _ _ _, rfl, fun x => ⟨rfl, fun c hc => by cases hc⟩⟩
theorem MapIn.lt (h : MapIn P K w b f N) : b < w.heap.size := by obtain ⟨D, h, _⟩ := h; exact h.lt
theorem MapIn.touch {S : Nat → Prop} (h : MapIn P K w b f N) (t : Touch S w w') (hs : ¬ S b) : MapIn P K w' b f N := by
  obtain ⟨D, h1, h2⟩ := h
  exact ⟨D, ownsMap_touch h1 t hs, h2⟩
theorem MapIn.ext (h : MapIn P K w b f N) (t : Ext w w') : MapIn P K w' b f N := h.touch (Touch.of_ext (S := fun _ => False) t) (fun x => x)
theorem MapIn.drew (h : MapIn P K w b f N) : MapIn P K w.drew b f N := h
theorem MapIn.drewN (h : MapIn P K w b f N) (k : Nat) : MapIn P K (w.drewN k) b f N := h
theorem MapIn.congr {g : Int → Option Int} (h : MapIn P K w b f N) (e : ∀ x, f x = g x) : MapIn P K w b g N := by
  have : f = g := funext e
  rwa [← this]
theorem MapIn.len_run (O : K.Ok P) (h : MapIn P K w b f N) (ty : TypeId) : (Builtin.len_ #[K.tm] ty #[.map (some b)]).run P w = .ok (.int .i64 (N : Int)) w := by
  obtain ⟨D, h1, h2, _⟩ := h
  rw [← h2]
  exact h1.len O.under ty

def upd (f : Int → Option Int) (x c : Int) (y : Int) : Option Int := if y = x then some c else f y
def del (f : Int → Option Int) (x : Int) (y : Int) : Option Int := if y = x then none else f y

theorem MapIn.put {w2 : World} {D : DataW Unit} {n x c : Int} {M : Nat} (hs : Maps.size D = N) (hf : ∀ x, Maps.has D (.int K.qk x) = (f x).isSome ∧ ∀ c, f x = some c → D.atKey (.int K.qk x) (.lit (.int K.qe 0)) = .lit (.int K.qe c)) (tidy : Maps.Tidy D)
    (h : w2.ownsMap P K.tk (plainElem P K.te) b M (D.put (.int K.qk x) (.lit (.int K.qe c)))) : MapIn P K w2 b (upd f x c) (if (f x).isSome then N else N + 1) := by
  have e : Maps.size (D.put (.int K.qk x) (.lit (.int K.qe c))) = if (f x).isSome then N else N + 1 := by
    rw [Maps.size_put tidy, (hf x).1, hs]
  refine ⟨_, e ▸ exact_sizeG h, e, fun y => ?_⟩
  unfold upd
  by_cases hy : y = x
  · subst hy
    rw [Maps.has_put_same tidy.isMap klit]
    simp only [if_true]
    exact ⟨rfl, fun c' hc => by cases hc; exact Maps.atKey_put_same tidy.isMap klit _ _⟩
  · have hne : (Lit.int K.qk y) ≠ .int K.qk x := by simpa using hy
    rw [Maps.has_put_other hne]
    simp only [if_neg hy]
    exact ⟨(hf y).1, fun c' hc => by rw [Maps.atKey_put_other hne]; exact (hf y).2 c' hc⟩

/-- An entry is made or found, and filled. -/
theorem MapIn.entry (O : K.Ok P) (h : MapIn P K w b f N) {x c : Int} (hx : Fits64 K.qk x) (hc : Fits64 K.qe c) (hN : N ≤ 1000000) :
    ∃ (v0 : Value) (st : Nat) (w1 w2 : World), (Instr.mapEntry K.tm (.map (some b)) (.int K.qk x)).run P w = .ok (.tuple #[v0, .int .i64 st]) w1 ∧ Touch (fun k => k = b) w w1 ∧
      (Instr.entryStore K.tm (.map (some b)) (.int .i64 st) (.int K.qe c)).run P w1 = .ok () w2 ∧ MapIn P K w2 b (upd f x c) (if (f x).isSome then N else N + 1) ∧ Touch (fun k => k = b) w w2 := by
  obtain ⟨D, h1, h2, h3⟩ := h
  have KK := Maps.int_keyed O.key
  have tidy := h1.tidy KK
  obtain ⟨v0, st, w1, w2, e1, t1, e2, o2, t2⟩ := entry_any h1 KK O.under O.zero (by unfold maxLen; omega) (Maps.keyOf_int_mk O.key hx) (plainElem_int (H := Unit) O.elem hc)
  exact ⟨v0, st, w1, w2, e1, turned_touchG t1 rfl, e2, MapIn.put (n := 0) h2 h3 tidy o2, turned_touchG t2 rfl⟩
end

section
variable {P : Program} {K : MapK} (w : World) {ops : Array Oper} {rest : List Oper} {o : Oper} {a : Act} {Q : Exit → Act → World → Prop}

/-- 'v, ok := m[k]'. -/
theorem wpList_lookG (O : K.Ok P) (hg : o.guard = none) (m x : Operand) (hop : o.op = Op.lookup K.tm m x true) (b N : Nat) (f : Int → Option Int) (hm : a.eval m = .map (some b)) (hown : MapIn P K w b f N) (k : Int) (hx : a.eval x = .int K.qk k) (hk : Fits64 K.qk k)
    (hK : ∀ c : Int, (∀ c', f k = some c' → c = c') → wpList P ops Q rest (a.put o.dst (.tuple #[.int K.qe c, .bool (f k).isSome])) w) : wpList P ops Q (o :: rest) a w := by
  obtain ⟨D, h1, h2, h3⟩ := hown
  refine wpList_lookup_own_ok_int w hg m x K.tm hop K.tk K.te K.qe (Maps.int_keyed O.key) O.under O.elem (O.zero w) b N D hm h1 _ _ hx (Maps.keyOf_int_mk O.key hk) ?_
  intro c hat _
  rw [(h3 k).1]
  refine hK c fun c' hc => ?_
  have := (h3 k).2 c' hc
  rw [this] at hat
  simpa using hat.symm

/-- 'm[k]' of a key that is there. -/
theorem wpList_getG (O : K.Ok P) (hg : o.guard = none) (m x : Operand) (hop : o.op = Op.lookup K.tm m x false) (b N : Nat) (f : Int → Option Int) (hm : a.eval m = .map (some b)) (hown : MapIn P K w b f N) (k : Int) (hx : a.eval x = .int K.qk k) (hk : Fits64 K.qk k) (c : Int) (hc : f k = some c)
    (hK : wpList P ops Q rest (a.put o.dst (.int K.qe c)) w) : wpList P ops Q (o :: rest) a w := by
  obtain ⟨D, h1, h2, h3⟩ := hown
  refine wpList_lookup_own_int w hg m x K.tm hop K.tk K.te K.qe (Maps.int_keyed O.key) O.under O.elem (O.zero w) b N D hm h1 _ _ hx (Maps.keyOf_int_mk O.key hk) ?_
  intro c' hat _
  rw [(h3 k).2 c hc] at hat
  have e : c = c' := by simpa using hat
  subst e
  exact hK

/-- 'len(m)'. -/
theorem wpList_lenG (O : K.Ok P) (hg : o.guard = none) (m : Operand) (hop : o.op = Op.call { callee := Callee.builtin Builtin.len, args := #[m], argTypes := #[K.tm] }) (b N : Nat) (f : Int → Option Int) (hm : a.eval m = .map (some b)) (hown : MapIn P K w b f N)
    (hK : wpList P ops Q rest (a.put o.dst (.int .i64 N)) w) : wpList P ops Q (o :: rest) a w := by
  obtain ⟨D, h1, h2, h3⟩ := hown
  refine wpList_len_own w hg m K.tm hop K.tk K.te O.under _ b N D hm h1 ?_
  rw [h2]; exact hK

/-- 'm[k] = v'. -/
theorem wpList_putG (O : K.Ok P) (hg : o.guard = none) (m x v : Operand) (hop : o.op = Op.mapUpdate K.tm m x v) (b N : Nat) (f : Int → Option Int) (hm : a.eval m = .map (some b)) (hown : MapIn P K w b f N) (k : Int) (hx : a.eval x = .int K.qk k) (hk : Fits64 K.qk k) (c : Int) (hv : a.eval v = .int K.qe c) (hc : Fits64 K.qe c) (hN : N ≤ 1000000)
    (hK : ∀ w', MapIn P K w' b (upd f k c) (if (f k).isSome then N else N + 1) → Touch (fun j => j = b) w w' → wpList P ops Q rest (a.put o.dst undef) w') : wpList P ops Q (o :: rest) a w := by
  obtain ⟨D, h1, h2, h3⟩ := hown
  have KK := Maps.int_keyed O.key
  have tidy := h1.tidy KK
  refine wpList_mapUpdate_in w hg m x v K.tm hop K.tk K.te KK O.under _ b N D hm h1 (by unfold maxLen; omega) _ _ _ hx hv (Maps.keyOf_int_mk O.key hk) _ [] (plainElem_int (H := Unit) O.elem hc) ?_
  intro w' o' t'
  exact hK w' (MapIn.put (n := 0) h2 h3 tidy o') (turned_touchG t' rfl)

/-- 'delete(m, k)' of a key that is there. -/
theorem wpList_delG (O : K.Ok P) (hg : o.guard = none) (m x : Operand) (hop : o.op = Op.call { callee := Callee.builtin Builtin.delete, args := #[m, x], argTypes := #[K.tm, K.tk] }) (b N : Nat) (f : Int → Option Int) (hm : a.eval m = .map (some b)) (hown : MapIn P K w b f N) (k : Int) (hx : a.eval x = .int K.qk k) (hk : Fits64 K.qk k) (hin : (f k).isSome = true)
    (hK : ∀ w', MapIn P K w' b (del f k) (N - 1) → Touch (fun j => j = b) w w' → wpList P ops Q rest (a.put o.dst (.tuple #[])) w') : wpList P ops Q (o :: rest) a w := by
  obtain ⟨D, h1, h2, h3⟩ := hown
  have KK := Maps.int_keyed O.key
  have tidy := h1.tidy KK
  refine wpList_delete_own w hg m x K.tm K.tk hop K.te KK O.under _ b N D hm h1 _ _ hx (Maps.keyOf_int_mk O.key hk) ?_
  intro w' o' t'
  have hsz : Maps.size (D.del (.int K.qk k)) = N - 1 := by
    have := Maps.size_del (k := Lit.int K.qk k) tidy
    rw [(h3 k).1, hin, h2] at this
    simp at this
    omega
  refine hK w' ⟨_, hsz ▸ exact_sizeG o', hsz, fun y => ?_⟩ (turned_touchG t' rfl)
  unfold del
  by_cases hy : y = k
  · subst hy
    rw [Maps.has_del_same]
    simp only [if_true]
    exact ⟨rfl, fun c hc => by cases hc⟩
  · have hne : (Lit.int K.qk y) ≠ .int K.qk k := by simpa using hy
    rw [Maps.has_del_other hne]
    simp only [if_neg hy]
    exact ⟨(h3 y).1, fun c hc => by rw [Maps.atKey_del_other hne]; exact (h3 y).2 c hc⟩
end
end Go.Proofs.Ytkonojjillcfiaa

/- Walks of the heap's order: Less and ahead. -/
namespace Go.Proofs.Ytkonojjillcfiaa
open Go.RowKit

def keyV (k : HKey) : Value := .agg #[.int .u64 k.1.1, .int .u64 k.1.2, .int .i64 k.2.1, .int .i64 k.2.2]
def thingV (t : Thing) : Value := .agg #[.int .i64 t.1, .int .u64 t.2.1.1, .int .u64 t.2.1.2, .int .i64 t.2.2.1, .int .i64 t.2.2.2]

theorem hLess_any (a b : HKey) (w : World) : Calls Try.prog 105 #[keyV a, keyV b] w fun e w' => e = .returned (.bool (lessB a b)) ∧ Ext w w' := by
  obtain ⟨⟨f, h⟩, y, x⟩ := a
  obtain ⟨⟨f', h'⟩, y', x'⟩ := b
  unfold keyV
  simp only
  by_cases e1 : f = f'
  · have q1 : (f != f') = false := by simpa using e1
    by_cases e2 : h = h'
    · have q2 : (h != h') = false := by simpa using e2
      by_cases e3 : y = y'
      · have q3 : (y != y') = false := by simpa using e3
        have e : lessB ((f, h), (y, x)) ((f', h'), (y', x')) = decide (x < x') := by simp [lessB, e1, e2, e3]
        rw [e]
        clear e e1 e2 e3
        go_enter Try.func105, Try.ntmps105
        go_wp2
        go_ret
        exact ⟨rfl, (by (with_reducible (repeat' (first | exact Ext.refl _ | assumption | refine Ext.drew ?_ | refine Ext.drewN ?_ _ | refine Ext.alloc ?_ _ | refine Ext.setCell ?_ ?_ _ | refine Ext.trans ?_ (by assumption)))); all_goals (first | (simp; done) | (simp; omega)))⟩
      · have q3 : (y != y') = true := by simpa using e3
        have e : lessB ((f, h), (y, x)) ((f', h'), (y', x')) = decide (y < y') := by simp [lessB, e1, e2, e3]
        rw [e]
        clear e e1 e2 e3
        go_enter Try.func105, Try.ntmps105
        go_wp2
        go_ret
        exact ⟨rfl, (by (with_reducible (repeat' (first | exact Ext.refl _ | assumption | refine Ext.drew ?_ | refine Ext.drewN ?_ _ | refine Ext.alloc ?_ _ | refine Ext.setCell ?_ ?_ _ | refine Ext.trans ?_ (by assumption)))); all_goals (first | (simp; done) | (simp; omega)))⟩
    · have q2 : (h != h') = true := by simpa using e2
      have e : lessB ((f, h), (y, x)) ((f', h'), (y', x')) = decide (h < h') := by simp [lessB, e1, e2]
      rw [e]
      clear e e1 e2
      go_enter Try.func105, Try.ntmps105
      go_wp2
      go_ret
      exact ⟨rfl, (by (with_reducible (repeat' (first | exact Ext.refl _ | assumption | refine Ext.drew ?_ | refine Ext.drewN ?_ _ | refine Ext.alloc ?_ _ | refine Ext.setCell ?_ ?_ _ | refine Ext.trans ?_ (by assumption)))); all_goals (first | (simp; done) | (simp; omega)))⟩
  · have q1 : (f != f') = true := by simpa using e1
    have e : lessB ((f, h), (y, x)) ((f', h'), (y', x')) = decide (f < f') := by simp [lessB, e1]
    rw [e]
    clear e e1
    go_enter Try.func105, Try.ntmps105
    go_wp2
    go_ret
    exact ⟨rfl, (by (with_reducible (repeat' (first | exact Ext.refl _ | assumption | refine Ext.drew ?_ | refine Ext.drewN ?_ _ | refine Ext.alloc ?_ _ | refine Ext.setCell ?_ ?_ _ | refine Ext.trans ?_ (by assumption)))); all_goals (first | (simp; done) | (simp; omega)))⟩

theorem eq_key (a b : HKey) (w : World) : (Op.equalIn 10000 142 (keyV a) (keyV b)).run Try.prog w = .ok (decide (a = b)) w := by
  have u : Try.prog.underlying 142 = some (.struct (Try.prog.fieldsOf 142)) := by kernel_rfl
  have s : Try.prog.stoodInHeld 142 = false := by kernel_rfl
  obtain ⟨⟨f, h⟩, y, x⟩ := a
  obtain ⟨⟨f', h'⟩, y', x'⟩ := b
  have e : decide (((f, h), (y, x)) = ((f', h'), (y', x'))) = (f == f' && (h == h' && (y == y' && x == x'))) := by
    rw [Bool.eq_iff_iff]; simp [and_assoc]
  rw [e]
  unfold keyV
  rw [run_equalIn_struct w 9999 142 _ _ u s]
  cases h1 : f == f' <;> cases h2 : h == h' <;> cases h3 : y == y' <;> cases h4 : x == x' <;> simp [go_sem, h1, h2, h3, h4]
end Go.Proofs.Ytkonojjillcfiaa

/- Walks of the flood's small functions: sat.Add, land.at, land.open, key. -/
namespace Go.Proofs.Ytkonojjillcfiaa
open Go.RowKit

theorem satAdd_any (a b : Int) (w : World) (h1 : 0 ≤ a) (h2 : 0 ≤ b) (h3 : a ≤ 18446744073709551615) (h4 : b ≤ 18446744073709551615) :
    Calls Try.prog 45 #[.int .u64 a, .int .u64 b] w fun e w' => e = .returned (.int .u64 (if a + b ≤ 18446744073709551615 then a + b else 18446744073709551615)) ∧ Ext w w' := by
  have k1 : IntKind.u64.wrap (18446744073709551615 - b) = 18446744073709551615 - b := by unfold IntKind.wrap; simp [IntKind.bits, IntKind.signed]; omega
  by_cases h : a + b ≤ 18446744073709551615
  · have k2 : IntKind.u64.wrap (a + b) = a + b := by unfold IntKind.wrap; simp [IntKind.bits, IntKind.signed]; omega
    have hd : decide (18446744073709551615 - b < a) = false := by simp; omega
    rw [if_pos h]
    clear h
    go_enter Try.func45, Try.ntmps45
    go_wp2
    go_ret
    exact ⟨rfl, (by (with_reducible (repeat' (first | exact Ext.refl _ | assumption | refine Ext.drew ?_ | refine Ext.drewN ?_ _ | refine Ext.alloc ?_ _ | refine Ext.setCell ?_ ?_ _ | refine Ext.trans ?_ (by assumption)))); all_goals (first | (simp; done) | (simp; omega)))⟩
  · have hd : decide (18446744073709551615 - b < a) = true := by simp; omega
    rw [if_neg h]
    clear h
    go_enter Try.func45, Try.ntmps45
    go_wp2
    go_ret
    exact ⟨rfl, (by (with_reducible (repeat' (first | exact Ext.refl _ | assumption | refine Ext.drew ?_ | refine Ext.drewN ?_ _ | refine Ext.alloc ?_ _ | refine Ext.setCell ?_ ?_ _ | refine Ext.trans ?_ (by assumption)))); all_goals (first | (simp; done) | (simp; omega)))⟩

/-- A field in memory, and a box of it. -/
structure LandAt (w : World) (W H : Int) (a : Option Addr) (l : List Int) (bx byy bw bh : Int) : Prop where
  may : mayB W H = true
  len : (l.length : Int) = W * H
  row : Row16 w a l
  u16 : U16s l
  fits : fitsR W H bx byy bw bh = true
theorem LandAt.ext {w w' : World} {W H : Int} {a : Option Addr} {l : List Int} {bx byy bw bh : Int} (L : LandAt w W H a l bx byy bw bh) (e : Ext w w') : LandAt w' W H a l bx byy bw bh := { L with row := L.row.ext e }

/-- May one go on a cell? -/
def openB (l : List Int) (W bx byy bw bh x y : Int) : Bool := hasB bx byy bw bh x y && decide (0 < costI l W (x, y))

theorem fAt_any (W H : Int) (a : Option Addr) (n c : Nat) (bx byy bw bh x y : Int) (w : World) (hm : mayB W H = true) (h1 : 0 ≤ x) (h2 : x < W) (h3 : 0 ≤ y) (h4 : y < H) :
    Calls Try.prog 72 #[.agg #[.int .i64 W, .int .i64 H, .slice a n c, .int .i64 bx, .int .i64 byy, .int .i64 bw, .int .i64 bh], .agg #[.int .i64 x, .int .i64 y]] w fun e w' => e = .returned (.int .i64 (y * W + x)) ∧ Ext w w' := by
  obtain ⟨m1, m2, m3, m4⟩ := mayB_true.1 hm
  have ib := idx_bd h1 h2 h3 h4
  have wb := mul_bd (a := W) (b := H) (A := 256) (B := 256) (by omega) m2 (by omega) m4
  have k1 : IntKind.i64.wrap (y * W) = y * W := IntWalk.i64_in _ (by omega)
  have k2 : IntKind.i64.wrap (y * W + x) = y * W + x := IntWalk.i64_in _ (by omega)
  go_enter Try.func72, Try.ntmps72
  go_wp2
  go_ret
  exact ⟨rfl, (by (with_reducible (repeat' (first | exact Ext.refl _ | assumption | refine Ext.drew ?_ | refine Ext.drewN ?_ _ | refine Ext.alloc ?_ _ | refine Ext.setCell ?_ ?_ _ | refine Ext.trans ?_ (by assumption)))); all_goals (first | (simp; done) | (simp; omega)))⟩

theorem fKey_any (f x y : Int) (w : World) : Calls Try.prog 96 #[.int .u64 f, .agg #[.int .i64 x, .int .i64 y]] w fun e w' => e = .returned (keyV ((f, 0), (y, x))) ∧ Ext w w' := by
  unfold keyV
  go_enter Try.func96, Try.ntmps96
  go_wp2
  exact bodyPost_ret (v := .agg #[.int .u64 f, .int .u64 0, .int .i64 y, .int .i64 x]) (by simp [results, Try.results96, go_sem, *]) rfl ⟨rfl, (by (with_reducible (repeat' (first | exact Ext.refl _ | assumption | refine Ext.drew ?_ | refine Ext.drewN ?_ _ | refine Ext.alloc ?_ _ | refine Ext.setCell ?_ ?_ _ | refine Ext.trans ?_ (by assumption)))); all_goals (first | (simp; done) | (simp; omega)))⟩

set_option maxRecDepth 100000 in
theorem fOpen_any {w : World} {W H : Int} {a : Option Addr} {l : List Int} {bx byy bw bh : Int} (L : LandAt w W H a l bx byy bw bh) (c : Nat) (x y : Int) :
    Calls Try.prog 95 #[.agg #[.int .i64 W, .int .i64 H, .slice a l.length c, .int .i64 bx, .int .i64 byy, .int .i64 bw, .int .i64 bh], .agg #[.int .i64 x, .int .i64 y]] w fun e w' => e = .returned (.bool (openB l W bx byy bw bh x y)) ∧ Ext w w' := by
  obtain ⟨hm, hl, hr, hu, hf⟩ := L
  have HG := hide (fun w' => gHas_any bx byy bw bh x y w')
  rw [hasG_eq hm hf] at HG
  unfold openB
  cases hh : hasB bx byy bw bh x y
  · rw [hh] at HG
    obtain ⟨n, hn⟩ : ∃ n, l.length = n := ⟨_, rfl⟩
    rw [hn]
    clear hl hr hu hf hh hn
    simp only [Bool.false_and]
    go_enter Try.func95, Try.ntmps95
    go_wp2_with fail
    obtain ⟨w0, hw0⟩ : ∃ w0, w0 = (w.alloc (.cells #[.int .i64 W, .int .i64 H, .slice a n c, .int .i64 bx, .int .i64 byy, .int .i64 bw, .int .i64 bh] 122)).alloc (.cells #[.int .i64 x, .int .i64 y] 49) := ⟨_, rfl⟩
    have hx0 : Ext w w0 := by rw [hw0]; exact (by (with_reducible (repeat' (first | exact Ext.refl _ | assumption | refine Ext.drew ?_ | refine Ext.drewN ?_ _ | refine Ext.alloc ?_ _ | refine Ext.setCell ?_ ?_ _ | refine Ext.trans ?_ (by assumption)))); all_goals (first | (simp; done) | (simp; omega)))
    have z0 : w.heap.size < w0.heap.size := by rw [hw0]; simp; omega
    have z1 : w.heap.size + 1 < w0.heap.size := by rw [hw0]; simp
    have q0 : w0.cell? ⟨w.heap.size, 0, none⟩ = some (.int .i64 W) := by rw [hw0]; simp [go_sem]
    have q1 : w0.cell? ⟨w.heap.size, 1, none⟩ = some (.int .i64 H) := by rw [hw0]; simp [go_sem]
    have q2 : w0.cell? ⟨w.heap.size, 2, none⟩ = some (.slice a n c) := by rw [hw0]; simp [go_sem]
    have q3 : w0.cell? ⟨w.heap.size, 3, none⟩ = some (.int .i64 bx) := by rw [hw0]; simp [go_sem]
    have q4 : w0.cell? ⟨w.heap.size, 4, none⟩ = some (.int .i64 byy) := by rw [hw0]; simp [go_sem]
    have q5 : w0.cell? ⟨w.heap.size, 5, none⟩ = some (.int .i64 bw) := by rw [hw0]; simp [go_sem]
    have q6 : w0.cell? ⟨w.heap.size, 6, none⟩ = some (.int .i64 bh) := by rw [hw0]; simp [go_sem]
    have p0 : w0.cell? ⟨w.heap.size + 1, 0, none⟩ = some (.int .i64 x) := by rw [hw0]; simp [go_sem]
    have p1 : w0.cell? ⟨w.heap.size + 1, 1, none⟩ = some (.int .i64 y) := by rw [hw0]; simp [go_sem]
    rw [← hw0]
    clear hw0
    refine wp_region_held_drew (S := (fun W => (∀ b o, b < w0.heap.size → W.cell? ⟨b, o, none⟩ = w0.cell? ⟨b, o, none⟩) ∧ Ext w0 W)) (by kernel_rfl) (by first | with_reducible exact pr_start _ | exact pr_of (by (with_reducible (repeat' (first | exact Ext.refl _ | assumption | refine Ext.drew ?_ | refine Ext.drewN ?_ _ | refine Ext.alloc ?_ _ | refine Ext.setCell ?_ ?_ _ | refine Ext.trans ?_ (by assumption)))); all_goals (first | (simp; done) | (simp; omega)))) (fun hHeld => ?_)
    (((refine wpAnyH_take (i := 0) (oi := ?g1_o) (v := ?g1_v) ?g1_hi (by kernel_rfl) (by kernel_rfl) (by kernel_rfl) ?g1_hq ?g1_hy (by assumption) ?g1_gr; (case g1_hi => (simp only [List.getElem?_toArray, List.getElem?_cons_zero]; rfl)); (case g1_hq => exact fun _ _ _ h => h); (case g1_hy => (refine Or.inl ⟨by rfl, ?_⟩; intro w hSw; (try dsimp only at hSw); go_simp; try with_reducible rfl)); try simp only [Act.put, List.setIfInBounds_toArray, List.set_cons_zero, List.set_cons_succ])); ((refine wpAnyH_take (i := 1) (oi := ?g2_o) (v := ?g2_v) ?g2_hi (by kernel_rfl) (by kernel_rfl) (by kernel_rfl) ?g2_hq ?g2_hy (by assumption) ?g2_gr; (case g2_hi => (simp only [List.getElem?_toArray, List.getElem?_cons_succ, List.getElem?_cons_zero]; rfl)); (case g2_hq => exact fun _ _ _ h => h); (case g2_hy => (refine Or.inl ⟨by rfl, ?_⟩; intro w hSw; (try dsimp only at hSw); go_simp; try with_reducible rfl)); try simp only [Act.put, List.setIfInBounds_toArray, List.set_cons_zero, List.set_cons_succ])); ((refine wpAnyH_take (i := 2) (oi := ?g3_o) (v := ?g3_v) ?g3_hi (by kernel_rfl) (by kernel_rfl) (by kernel_rfl) ?g3_hq ?g3_hy (by assumption) ?g3_gr; (case g3_hi => (simp only [List.getElem?_toArray, List.getElem?_cons_succ, List.getElem?_cons_zero]; rfl)); (case g3_hq => exact fun _ _ _ h => h); (case g3_hy => (refine Or.inl ⟨by rfl, ?_⟩; intro w hSw; (try dsimp only at hSw); go_simp; try with_reducible rfl)); try simp only [Act.put, List.setIfInBounds_toArray, List.set_cons_zero, List.set_cons_succ])))
    (refine wpAnyH_ready (rs := [3]) (by kernel_rfl) (by simp) ?_; refine AllReadyH.cons (o := ?g4_o) ?g4_hi (fun K hK => ?_) AllReadyH.nil; (case g4_hi => (simp only [List.getElem?_toArray, List.getElem?_cons_succ, List.getElem?_cons_zero]; rfl)); go_simp; (go_at_call 71; refine (HG.out _).mono ?_; rintro e w1 ⟨rfl, hb1⟩); go_wp2_with fail; refine hK.out _ _ (pr_of (by (with_reducible (repeat' (first | exact Ext.refl _ | assumption | refine Ext.drew ?_ | refine Ext.drewN ?_ _ | refine Ext.alloc ?_ _ | refine Ext.setCell ?_ ?_ _ | refine Ext.trans ?_ (by assumption)))); all_goals (first | (simp; done) | (simp; omega)))) (fun hHeld => ?_); clear hK K; try simp only [Act.put, List.setIfInBounds_toArray, List.set_cons_zero, List.set_cons_succ])
    ((refine wpAnyH_take (i := 4) (oi := ?g5_o) (v := ?g5_v) ?g5_hi (by kernel_rfl) (by kernel_rfl) (by kernel_rfl) ?g5_hq ?g5_hy (by assumption) ?g5_gr; (case g5_hi => (simp only [List.getElem?_toArray, List.getElem?_cons_succ, List.getElem?_cons_zero]; rfl)); (case g5_hq => exact fun _ _ _ h => h); (case g5_hy => (refine Or.inl ⟨by rfl, ?_⟩; intro w hSw; (try dsimp only at hSw); go_simp; try with_reducible rfl)); try simp only [Act.put, List.setIfInBounds_toArray, List.set_cons_zero, List.set_cons_succ]))
    (((refine wpAnyH_take (i := 5) (oi := ?g6_o) (v := undef) ?g6_hi (by kernel_rfl) (by kernel_rfl) (by kernel_rfl) ?g6_hq ?g6_hy (by assumption) ?g6_gr; (case g6_hi => (simp only [List.getElem?_toArray, List.getElem?_cons_succ, List.getElem?_cons_zero]; rfl)); (case g6_hq => exact fun _ _ _ h => h); (case g6_hy => exact Or.inr ⟨by rfl, rfl⟩); try simp only [Act.put, List.setIfInBounds_toArray, List.set_cons_zero, List.set_cons_succ])); ((refine wpAnyH_take (i := 6) (oi := ?g7_o) (v := undef) ?g7_hi (by kernel_rfl) (by kernel_rfl) (by kernel_rfl) ?g7_hq ?g7_hy (by assumption) ?g7_gr; (case g7_hi => (simp only [List.getElem?_toArray, List.getElem?_cons_succ, List.getElem?_cons_zero]; rfl)); (case g7_hq => exact fun _ _ _ h => h); (case g7_hy => exact Or.inr ⟨by rfl, rfl⟩); try simp only [Act.put, List.setIfInBounds_toArray, List.set_cons_zero, List.set_cons_succ])); ((refine wpAnyH_take (i := 7) (oi := ?g8_o) (v := undef) ?g8_hi (by kernel_rfl) (by kernel_rfl) (by kernel_rfl) ?g8_hq ?g8_hy (by assumption) ?g8_gr; (case g8_hi => (simp only [List.getElem?_toArray, List.getElem?_cons_succ, List.getElem?_cons_zero]; rfl)); (case g8_hq => exact fun _ _ _ h => h); (case g8_hy => exact Or.inr ⟨by rfl, rfl⟩); try simp only [Act.put, List.setIfInBounds_toArray, List.set_cons_zero, List.set_cons_succ])); ((refine wpAnyH_take (i := 8) (oi := ?g9_o) (v := undef) ?g9_hi (by kernel_rfl) (by kernel_rfl) (by kernel_rfl) ?g9_hq ?g9_hy (by assumption) ?g9_gr; (case g9_hi => (simp only [List.getElem?_toArray, List.getElem?_cons_succ, List.getElem?_cons_zero]; rfl)); (case g9_hq => exact fun _ _ _ h => h); (case g9_hy => exact Or.inr ⟨by rfl, rfl⟩); try simp only [Act.put, List.setIfInBounds_toArray, List.set_cons_zero, List.set_cons_succ])); ((refine wpAnyH_take (i := 9) (oi := ?g10_o) (v := undef) ?g10_hi (by kernel_rfl) (by kernel_rfl) (by kernel_rfl) ?g10_hq ?g10_hy (by assumption) ?g10_gr; (case g10_hi => (simp only [List.getElem?_toArray, List.getElem?_cons_succ, List.getElem?_cons_zero]; rfl)); (case g10_hq => exact fun _ _ _ h => h); (case g10_hy => exact Or.inr ⟨by rfl, rfl⟩); try simp only [Act.put, List.setIfInBounds_toArray, List.set_cons_zero, List.set_cons_succ])); ((refine wpAnyH_take (i := 10) (oi := ?g11_o) (v := undef) ?g11_hi (by kernel_rfl) (by kernel_rfl) (by kernel_rfl) ?g11_hq ?g11_hy (by assumption) ?g11_gr; (case g11_hi => (simp only [List.getElem?_toArray, List.getElem?_cons_succ, List.getElem?_cons_zero]; rfl)); (case g11_hq => exact fun _ _ _ h => h); (case g11_hy => exact Or.inr ⟨by rfl, rfl⟩); try simp only [Act.put, List.setIfInBounds_toArray, List.set_cons_zero, List.set_cons_succ])); ((refine wpAnyH_take (i := 11) (oi := ?g12_o) (v := undef) ?g12_hi (by kernel_rfl) (by kernel_rfl) (by kernel_rfl) ?g12_hq ?g12_hy (by assumption) ?g12_gr; (case g12_hi => (simp only [List.getElem?_toArray, List.getElem?_cons_succ, List.getElem?_cons_zero]; rfl)); (case g12_hq => exact fun _ _ _ h => h); (case g12_hy => exact Or.inr ⟨by rfl, rfl⟩); try simp only [Act.put, List.setIfInBounds_toArray, List.set_cons_zero, List.set_cons_succ])); ((refine wpAnyH_take (i := 12) (oi := ?g13_o) (v := undef) ?g13_hi (by kernel_rfl) (by kernel_rfl) (by kernel_rfl) ?g13_hq ?g13_hy (by assumption) ?g13_gr; (case g13_hi => (simp only [List.getElem?_toArray, List.getElem?_cons_succ, List.getElem?_cons_zero]; rfl)); (case g13_hq => exact fun _ _ _ h => h); (case g13_hy => exact Or.inr ⟨by rfl, rfl⟩); try simp only [Act.put, List.setIfInBounds_toArray, List.set_cons_zero, List.set_cons_succ])); ((refine wpAnyH_take (i := 13) (oi := ?g14_o) (v := undef) ?g14_hi (by kernel_rfl) (by kernel_rfl) (by kernel_rfl) ?g14_hq ?g14_hy (by assumption) ?g14_gr; (case g14_hi => (simp only [List.getElem?_toArray, List.getElem?_cons_succ, List.getElem?_cons_zero]; rfl)); (case g14_hq => exact fun _ _ _ h => h); (case g14_hy => exact Or.inr ⟨by rfl, rfl⟩); try simp only [Act.put, List.setIfInBounds_toArray, List.set_cons_zero, List.set_cons_succ])))
    (((refine wpAnyH_take (i := 14) (oi := ?g15_o) (v := ?g15_v) ?g15_hi (by kernel_rfl) (by kernel_rfl) (by kernel_rfl) ?g15_hq ?g15_hy (by assumption) ?g15_gr; (case g15_hi => (simp only [List.getElem?_toArray, List.getElem?_cons_succ, List.getElem?_cons_zero]; rfl)); (case g15_hq => exact fun _ _ _ h => h); (case g15_hy => (refine Or.inl ⟨by rfl, ?_⟩; intro w hSw; (try dsimp only at hSw); go_simp; try with_reducible rfl)); try simp only [Act.put, List.setIfInBounds_toArray, List.set_cons_zero, List.set_cons_succ])); ((refine wpAnyH_take (i := 15) (oi := ?g16_o) (v := ?g16_v) ?g16_hi (by kernel_rfl) (by kernel_rfl) (by kernel_rfl) ?g16_hq ?g16_hy (by assumption) ?g16_gr; (case g16_hi => (simp only [List.getElem?_toArray, List.getElem?_cons_succ, List.getElem?_cons_zero]; rfl)); (case g16_hq => exact fun _ _ _ h => h); (case g16_hy => (refine Or.inl ⟨by rfl, ?_⟩; intro w hSw; (try dsimp only at hSw); go_simp; try with_reducible rfl)); try simp only [Act.put, List.setIfInBounds_toArray, List.set_cons_zero, List.set_cons_succ])))
    refine wpAnyH_done (by kernel_rfl) ?_ _
    have hx := hx0.trans hHeld.2
    go_wp2_with fail
    go_ret
    exact ⟨rfl, hx⟩
  · rw [hh] at HG
    obtain ⟨m1, m2, m3, m4⟩ := mayB_true.1 hm
    have ff := fitsR_true.1 hf
    have h9 := hasB_true.1 hh
    have h1 : 0 ≤ x := by omega
    have h2 : x < W := by omega
    have h3 : 0 ≤ y := by omega
    have h4 : y < H := by omega
    obtain ⟨b, off, rfl, hb, hc⟩ := cost_cell hr hl h1 h2 h3 h4
    have cb := costI_bd hu W (x, y)
    have ib := idx_bd h1 h2 h3 h4
    have i0 : 0 ≤ y * W + x := by omega
    have ib2 : y * W + x < (l.length : Int) := by omega
    have HA := hide (fun n w' => fAt_any W H (some ⟨b, off, none⟩) n c bx byy bw bh x y w' hm h1 h2 h3 h4)
    simp only [Bool.true_and]
    generalize costI l W (x, y) = v at *
    obtain ⟨n, hn⟩ : ∃ n, l.length = n := ⟨_, rfl⟩
    rw [hn] at ib2 ⊢
    clear hl hr hu hf hh h9 ff hm m1 m2 m3 m4 hn h1 h2 h3 h4 ib
    generalize y * W + x = k at *
    go_enter Try.func95, Try.ntmps95
    go_wp2_with fail
    obtain ⟨w0, hw0⟩ : ∃ w0, w0 = (w.alloc (.cells #[.int .i64 W, .int .i64 H, .slice (some ⟨b, off, none⟩) n c, .int .i64 bx, .int .i64 byy, .int .i64 bw, .int .i64 bh] 122)).alloc (.cells #[.int .i64 x, .int .i64 y] 49) := ⟨_, rfl⟩
    have hx0 : Ext w w0 := by rw [hw0]; exact (by (with_reducible (repeat' (first | exact Ext.refl _ | assumption | refine Ext.drew ?_ | refine Ext.drewN ?_ _ | refine Ext.alloc ?_ _ | refine Ext.setCell ?_ ?_ _ | refine Ext.trans ?_ (by assumption)))); all_goals (first | (simp; done) | (simp; omega)))
    have z0 : w.heap.size < w0.heap.size := by rw [hw0]; simp; omega
    have z1 : w.heap.size + 1 < w0.heap.size := by rw [hw0]; simp
    have q0 : w0.cell? ⟨w.heap.size, 0, none⟩ = some (.int .i64 W) := by rw [hw0]; simp [go_sem]
    have q1 : w0.cell? ⟨w.heap.size, 1, none⟩ = some (.int .i64 H) := by rw [hw0]; simp [go_sem]
    have q2 : w0.cell? ⟨w.heap.size, 2, none⟩ = some (.slice (some ⟨b, off, none⟩) n c) := by rw [hw0]; simp [go_sem]
    have q3 : w0.cell? ⟨w.heap.size, 3, none⟩ = some (.int .i64 bx) := by rw [hw0]; simp [go_sem]
    have q4 : w0.cell? ⟨w.heap.size, 4, none⟩ = some (.int .i64 byy) := by rw [hw0]; simp [go_sem]
    have q5 : w0.cell? ⟨w.heap.size, 5, none⟩ = some (.int .i64 bw) := by rw [hw0]; simp [go_sem]
    have q6 : w0.cell? ⟨w.heap.size, 6, none⟩ = some (.int .i64 bh) := by rw [hw0]; simp [go_sem]
    have p0 : w0.cell? ⟨w.heap.size + 1, 0, none⟩ = some (.int .i64 x) := by rw [hw0]; simp [go_sem]
    have p1 : w0.cell? ⟨w.heap.size + 1, 1, none⟩ = some (.int .i64 y) := by rw [hw0]; simp [go_sem]
    have hc0 := (hx0.cell (p := ⟨b, off + k.toNat, none⟩) hb).trans hc
    have hb0 : b < w0.heap.size := Nat.lt_of_lt_of_le hb hx0.size
    clear hc hb
    rw [← hw0]
    clear hw0
    refine wp_region_held_drew (S := (fun W => (∀ b o, b < w0.heap.size → W.cell? ⟨b, o, none⟩ = w0.cell? ⟨b, o, none⟩) ∧ Ext w0 W)) (by kernel_rfl) (by first | with_reducible exact pr_start _ | exact pr_of (by (with_reducible (repeat' (first | exact Ext.refl _ | assumption | refine Ext.drew ?_ | refine Ext.drewN ?_ _ | refine Ext.alloc ?_ _ | refine Ext.setCell ?_ ?_ _ | refine Ext.trans ?_ (by assumption)))); all_goals (first | (simp; done) | (simp; omega)))) (fun hHeld => ?_)
    (((refine wpAnyH_take (i := 0) (oi := ?g17_o) (v := ?g17_v) ?g17_hi (by kernel_rfl) (by kernel_rfl) (by kernel_rfl) ?g17_hq ?g17_hy (by assumption) ?g17_gr; (case g17_hi => (simp only [List.getElem?_toArray, List.getElem?_cons_zero]; rfl)); (case g17_hq => exact fun _ _ _ h => h); (case g17_hy => (refine Or.inl ⟨by rfl, ?_⟩; intro w hSw; (try dsimp only at hSw); go_simp; try with_reducible rfl)); try simp only [Act.put, List.setIfInBounds_toArray, List.set_cons_zero, List.set_cons_succ])); ((refine wpAnyH_take (i := 1) (oi := ?g18_o) (v := ?g18_v) ?g18_hi (by kernel_rfl) (by kernel_rfl) (by kernel_rfl) ?g18_hq ?g18_hy (by assumption) ?g18_gr; (case g18_hi => (simp only [List.getElem?_toArray, List.getElem?_cons_succ, List.getElem?_cons_zero]; rfl)); (case g18_hq => exact fun _ _ _ h => h); (case g18_hy => (refine Or.inl ⟨by rfl, ?_⟩; intro w hSw; (try dsimp only at hSw); go_simp; try with_reducible rfl)); try simp only [Act.put, List.setIfInBounds_toArray, List.set_cons_zero, List.set_cons_succ])); ((refine wpAnyH_take (i := 2) (oi := ?g19_o) (v := ?g19_v) ?g19_hi (by kernel_rfl) (by kernel_rfl) (by kernel_rfl) ?g19_hq ?g19_hy (by assumption) ?g19_gr; (case g19_hi => (simp only [List.getElem?_toArray, List.getElem?_cons_succ, List.getElem?_cons_zero]; rfl)); (case g19_hq => exact fun _ _ _ h => h); (case g19_hy => (refine Or.inl ⟨by rfl, ?_⟩; intro w hSw; (try dsimp only at hSw); go_simp; try with_reducible rfl)); try simp only [Act.put, List.setIfInBounds_toArray, List.set_cons_zero, List.set_cons_succ])))
    (refine wpAnyH_ready (rs := [3]) (by kernel_rfl) (by simp) ?_; refine AllReadyH.cons (o := ?g20_o) ?g20_hi (fun K hK => ?_) AllReadyH.nil; (case g20_hi => (simp only [List.getElem?_toArray, List.getElem?_cons_succ, List.getElem?_cons_zero]; rfl)); go_simp; (go_at_call 71; refine (HG.out _).mono ?_; rintro e w1 ⟨rfl, hb1⟩); go_wp2_with fail; refine hK.out _ _ (pr_of (by (with_reducible (repeat' (first | exact Ext.refl _ | assumption | refine Ext.drew ?_ | refine Ext.drewN ?_ _ | refine Ext.alloc ?_ _ | refine Ext.setCell ?_ ?_ _ | refine Ext.trans ?_ (by assumption)))); all_goals (first | (simp; done) | (simp; omega)))) (fun hHeld => ?_); clear hK K; try simp only [Act.put, List.setIfInBounds_toArray, List.set_cons_zero, List.set_cons_succ])
    (((refine wpAnyH_take (i := 4) (oi := ?g21_o) (v := ?g21_v) ?g21_hi (by kernel_rfl) (by kernel_rfl) (by kernel_rfl) ?g21_hq ?g21_hy (by assumption) ?g21_gr; (case g21_hi => (simp only [List.getElem?_toArray, List.getElem?_cons_succ, List.getElem?_cons_zero]; rfl)); (case g21_hq => exact fun _ _ _ h => h); (case g21_hy => (refine Or.inl ⟨by rfl, ?_⟩; intro w hSw; (try dsimp only at hSw); go_simp; try with_reducible rfl)); try simp only [Act.put, List.setIfInBounds_toArray, List.set_cons_zero, List.set_cons_succ])); ((refine wpAnyH_take (i := 5) (oi := ?g22_o) (v := ?g22_v) ?g22_hi (by kernel_rfl) (by kernel_rfl) (by kernel_rfl) ?g22_hq ?g22_hy (by assumption) ?g22_gr; (case g22_hi => (simp only [List.getElem?_toArray, List.getElem?_cons_succ, List.getElem?_cons_zero]; rfl)); (case g22_hq => exact fun _ _ _ h => h); (case g22_hy => (refine Or.inl ⟨by rfl, ?_⟩; intro w hSw; (try dsimp only at hSw); go_simp; try with_reducible rfl)); try simp only [Act.put, List.setIfInBounds_toArray, List.set_cons_zero, List.set_cons_succ])); ((refine wpAnyH_take (i := 6) (oi := ?g23_o) (v := ?g23_v) ?g23_hi (by kernel_rfl) (by kernel_rfl) (by kernel_rfl) ?g23_hq ?g23_hy (by assumption) ?g23_gr; (case g23_hi => (simp only [List.getElem?_toArray, List.getElem?_cons_succ, List.getElem?_cons_zero]; rfl)); (case g23_hq => exact fun _ _ _ h => h); (case g23_hy => (refine Or.inl ⟨by rfl, ?_⟩; intro w hSw; (try dsimp only at hSw); go_simp; try with_reducible rfl)); try simp only [Act.put, List.setIfInBounds_toArray, List.set_cons_zero, List.set_cons_succ])); ((refine wpAnyH_take (i := 7) (oi := ?g24_o) (v := ?g24_v) ?g24_hi (by kernel_rfl) (by kernel_rfl) (by kernel_rfl) ?g24_hq ?g24_hy (by assumption) ?g24_gr; (case g24_hi => (simp only [List.getElem?_toArray, List.getElem?_cons_succ, List.getElem?_cons_zero]; rfl)); (case g24_hq => exact fun _ _ _ h => h); (case g24_hy => (refine Or.inl ⟨by rfl, ?_⟩; intro w hSw; (try dsimp only at hSw); go_simp; try with_reducible rfl)); try simp only [Act.put, List.setIfInBounds_toArray, List.set_cons_zero, List.set_cons_succ])); ((refine wpAnyH_take (i := 8) (oi := ?g25_o) (v := ?g25_v) ?g25_hi (by kernel_rfl) (by kernel_rfl) (by kernel_rfl) ?g25_hq ?g25_hy (by assumption) ?g25_gr; (case g25_hi => (simp only [List.getElem?_toArray, List.getElem?_cons_succ, List.getElem?_cons_zero]; rfl)); (case g25_hq => exact fun _ _ _ h => h); (case g25_hy => (refine Or.inl ⟨by rfl, ?_⟩; intro w hSw; (try dsimp only at hSw); go_simp; try with_reducible rfl)); try simp only [Act.put, List.setIfInBounds_toArray, List.set_cons_zero, List.set_cons_succ])); ((refine wpAnyH_take (i := 9) (oi := ?g26_o) (v := ?g26_v) ?g26_hi (by kernel_rfl) (by kernel_rfl) (by kernel_rfl) ?g26_hq ?g26_hy (by assumption) ?g26_gr; (case g26_hi => (simp only [List.getElem?_toArray, List.getElem?_cons_succ, List.getElem?_cons_zero]; rfl)); (case g26_hq => exact fun _ _ _ h => h); (case g26_hy => (refine Or.inl ⟨by rfl, ?_⟩; intro w hSw; (try dsimp only at hSw); go_simp; try with_reducible rfl)); try simp only [Act.put, List.setIfInBounds_toArray, List.set_cons_zero, List.set_cons_succ])))
    (refine wpAnyH_ready (rs := [10]) (by kernel_rfl) (by simp) ?_; refine AllReadyH.cons (o := ?g27_o) ?g27_hi (fun K hK => ?_) AllReadyH.nil; (case g27_hi => (simp only [List.getElem?_toArray, List.getElem?_cons_succ, List.getElem?_cons_zero]; rfl)); go_simp; (go_at_call 72; refine (HA.out _ _).mono ?_; rintro e w2 ⟨rfl, hb2⟩); go_wp2_with fail; refine hK.out _ _ (pr_of (by (with_reducible (repeat' (first | exact Ext.refl _ | assumption | refine Ext.drew ?_ | refine Ext.drewN ?_ _ | refine Ext.alloc ?_ _ | refine Ext.setCell ?_ ?_ _ | refine Ext.trans ?_ (by assumption)))); all_goals (first | (simp; done) | (simp; omega)))) (fun hHeld => ?_); clear hK K; try simp only [Act.put, List.setIfInBounds_toArray, List.set_cons_zero, List.set_cons_succ])
    (((refine wpAnyH_take (i := 11) (oi := ?g28_o) (v := ?g28_v) ?g28_hi (by kernel_rfl) (by kernel_rfl) (by kernel_rfl) ?g28_hq ?g28_hy (by assumption) ?g28_gr; (case g28_hi => (simp only [List.getElem?_toArray, List.getElem?_cons_succ, List.getElem?_cons_zero]; rfl)); (case g28_hq => exact fun _ _ _ h => h); (case g28_hy => (refine Or.inl ⟨by rfl, ?_⟩; intro w hSw; (try dsimp only at hSw); go_simp; try with_reducible rfl)); try simp only [Act.put, List.setIfInBounds_toArray, List.set_cons_zero, List.set_cons_succ])); ((refine wpAnyH_take (i := 12) (oi := ?g29_o) (v := ?g29_v) ?g29_hi (by kernel_rfl) (by kernel_rfl) (by kernel_rfl) ?g29_hq ?g29_hy (by assumption) ?g29_gr; (case g29_hi => (simp only [List.getElem?_toArray, List.getElem?_cons_succ, List.getElem?_cons_zero]; rfl)); (case g29_hq => exact fun _ _ _ h => h); (case g29_hy => (refine Or.inl ⟨by rfl, ?_⟩; intro w hSw; (try dsimp only at hSw); go_simp; try with_reducible rfl)); try simp only [Act.put, List.setIfInBounds_toArray, List.set_cons_zero, List.set_cons_succ])); ((refine wpAnyH_take (i := 13) (oi := ?g30_o) (v := ?g30_v) ?g30_hi (by kernel_rfl) (by kernel_rfl) (by kernel_rfl) ?g30_hq ?g30_hy (by assumption) ?g30_gr; (case g30_hi => (simp only [List.getElem?_toArray, List.getElem?_cons_succ, List.getElem?_cons_zero]; rfl)); (case g30_hq => exact fun _ _ _ h => h); (case g30_hy => (refine Or.inl ⟨by rfl, ?_⟩; intro w hSw; (try dsimp only at hSw); go_simp; try with_reducible rfl)); try simp only [Act.put, List.setIfInBounds_toArray, List.set_cons_zero, List.set_cons_succ])); ((refine wpAnyH_take (i := 14) (oi := ?g31_o) (v := ?g31_v) ?g31_hi (by kernel_rfl) (by kernel_rfl) (by kernel_rfl) ?g31_hq ?g31_hy (by assumption) ?g31_gr; (case g31_hi => (simp only [List.getElem?_toArray, List.getElem?_cons_succ, List.getElem?_cons_zero]; rfl)); (case g31_hq => exact fun _ _ _ h => h); (case g31_hy => (refine Or.inl ⟨by rfl, ?_⟩; intro w hSw; (try dsimp only at hSw); go_simp; try with_reducible rfl)); try simp only [Act.put, List.setIfInBounds_toArray, List.set_cons_zero, List.set_cons_succ])); ((refine wpAnyH_take (i := 15) (oi := ?g32_o) (v := ?g32_v) ?g32_hi (by kernel_rfl) (by kernel_rfl) (by kernel_rfl) ?g32_hq ?g32_hy (by assumption) ?g32_gr; (case g32_hi => (simp only [List.getElem?_toArray, List.getElem?_cons_succ, List.getElem?_cons_zero]; rfl)); (case g32_hq => exact fun _ _ _ h => h); (case g32_hy => (refine Or.inl ⟨by rfl, ?_⟩; intro w hSw; (try dsimp only at hSw); go_simp; try with_reducible rfl)); try simp only [Act.put, List.setIfInBounds_toArray, List.set_cons_zero, List.set_cons_succ])))
    refine wpAnyH_done (by kernel_rfl) ?_ _
    have hx := hx0.trans hHeld.2
    go_wp2_with fail
    go_ret
    exact ⟨by simp, hx⟩
end Go.Proofs.Ytkonojjillcfiaa

/- Walks of part: has and what it calls. -/
namespace Go.Proofs.Ytkonojjillcfiaa
open Go.RowKit

def bad (W H s id : Int) : Bool := decide (id < 0) || decide (cnt W H s ≤ id)

theorem has1_any (W H s id : Int) (p : Nat) (w : World) (hr : rightB W H s = true) (_hp : p < w.heap.size)
    (c0 : w.cell? ⟨p, 0, none⟩ = some (.int .i64 W)) (c1 : w.cell? ⟨p, 1, none⟩ = some (.int .i64 H)) (c2 : w.cell? ⟨p, 2, none⟩ = some (.int .i64 s)) :
    Calls Try.prog 77 #[.int .i64 id, .pointer (some ⟨p, 0, none⟩)] w fun e w' => e = .returned (.bool (bad W H s id)) ∧ Ext w w' := by
  unfold bad
  by_cases h : id < 0
  · go_enter Try.func77, Try.ntmps77
    go_wp2_with (first | (go_at_call 78; refine (count_yes _ _ _ _ hr).mono ?_; rintro e w1 ⟨rfl, hb1⟩; obtain ⟨hc1, hf1⟩ := hb1.cells; have hz1 := hb1.size; (repeat (first | rw [World.size_alloc] at hz1 | rw [World.size_drew] at hz1))))
    go_ret
    exact ⟨by simp [h], (by (with_reducible (repeat' (first | exact Ext.refl _ | assumption | refine Ext.drew ?_ | refine Ext.drewN ?_ _ | refine Ext.alloc ?_ _ | refine Ext.setCell ?_ ?_ _ | refine Ext.trans ?_ (by assumption)))); all_goals (first | (simp; done) | (simp; omega)))⟩
  · by_cases h' : cnt W H s ≤ id
    · go_enter Try.func77, Try.ntmps77
      go_wp2_with (first | (go_at_call 78; refine (count_yes _ _ _ _ hr).mono ?_; rintro e w1 ⟨rfl, hb1⟩; obtain ⟨hc1, hf1⟩ := hb1.cells; have hz1 := hb1.size; (repeat (first | rw [World.size_alloc] at hz1 | rw [World.size_drew] at hz1))))
      go_ret
      exact ⟨by simp [h'], (by (with_reducible (repeat' (first | exact Ext.refl _ | assumption | refine Ext.drew ?_ | refine Ext.drewN ?_ _ | refine Ext.alloc ?_ _ | refine Ext.setCell ?_ ?_ _ | refine Ext.trans ?_ (by assumption)))); all_goals (first | (simp; done) | (simp; omega)))⟩
    · go_enter Try.func77, Try.ntmps77
      go_wp2_with (first | (go_at_call 78; refine (count_yes _ _ _ _ hr).mono ?_; rintro e w1 ⟨rfl, hb1⟩; obtain ⟨hc1, hf1⟩ := hb1.cells; have hz1 := hb1.size; (repeat (first | rw [World.size_alloc] at hz1 | rw [World.size_drew] at hz1))))
      go_ret
      exact ⟨by simp; omega, (by (with_reducible (repeat' (first | exact Ext.refl _ | assumption | refine Ext.drew ?_ | refine Ext.drewN ?_ _ | refine Ext.alloc ?_ _ | refine Ext.setCell ?_ ?_ _ | refine Ext.trans ?_ (by assumption)))); all_goals (first | (simp; done) | (simp; omega)))⟩

def fidx (p : Int → Bool) (l : List Int) : Int := match l.findIdx? p with
  | some i => i
  | none => -1
theorem fidx_at {p : Int → Bool} {l : List Int} {k : Nat} (hk : k < l.length) (h : ∀ j (hj : j < k), p (l[j]'(by omega)) = false) (hp : p l[k] = true) : fidx p l = k := by
  have : l.findIdx? p = some k := by
    rw [List.findIdx?_eq_some_iff_getElem]
    exact ⟨hk, hp, fun j hj => by simpa using h j hj⟩
  simp [fidx, this]
theorem fidx_none {p : Int → Bool} {l : List Int} (h : ∀ j (hj : j < l.length), p l[j] = false) : fidx p l = -1 := by
  have : l.findIdx? p = none := by
    rw [List.findIdx?_eq_none_iff]
    intro x hx
    obtain ⟨j, hj, rfl⟩ := List.getElem_of_mem hx
    exact h j hj
  simp [fidx, this]
theorem fidx_ge {p : Int → Bool} {l : List Int} : decide (0 ≤ fidx p l) = l.any p := by
  unfold fidx
  cases h : l.findIdx? p with
  | none =>
    rw [List.findIdx?_eq_none_iff] at h
    have : l.any p = false := by rw [List.any_eq_false]; intro x hx; simpa using h x hx
    simp [this]
  | some i =>
    rw [List.findIdx?_eq_some_iff_getElem] at h
    obtain ⟨hi, hp, _⟩ := h
    have : l.any p = true := by rw [List.any_eq_true]; exact ⟨_, List.getElem_mem hi, hp⟩
    simp [this]

def IntsAt (w : World) (b off : Nat) (l : List Int) : Prop := ∀ k (h : k < l.length), w.cell? ⟨b, off + k, none⟩ = some (.int .i64 l[k])

theorem IntsAt.ext {w w' : World} {b off : Nat} {l : List Int} (h : IntsAt w b off l) (hb : b < w.heap.size) (he : Ext w w') : IntsAt w' b off l :=
  fun k hk => (he.cell (p := ⟨b, off + k, none⟩) hb).trans (h k hk)

set_option maxHeartbeats 400000 in
theorem indexFunc_has (W H s : Int) (p b off cap : Nat) (l : List Int) (w : World) (hr : rightB W H s = true) (hp : p < w.heap.size) (hb : b < w.heap.size)
    (c0 : w.cell? ⟨p, 0, none⟩ = some (.int .i64 W)) (c1 : w.cell? ⟨p, 1, none⟩ = some (.int .i64 H)) (c2 : w.cell? ⟨p, 2, none⟩ = some (.int .i64 s))
    (hl : l.length ≤ 1000000) (hcells : IntsAt w b off l) :
    Calls Try.prog 102 #[.slice (some ⟨b, off, none⟩) l.length cap, .func (.func 77) #[] #[.pointer (some ⟨p, 0, none⟩)]] w fun e w' => e = .returned (.int .i64 (fidx (bad W H s) l)) ∧ Ext w w' := by
  have HC := hide hcells
  clear hcells
  go_enter Try.func102, Try.ntmps102
  go_wp2
  go_loopw [8] (fun i wr => ∃ k : Nat, k ≤ l.length ∧ i = .int .i64 k ∧ (∀ j (hj : j < k) (hj' : j < l.length), bad W H s l[j] = false) ∧ Ext w wr) (fun i _ => l.length - (intOf i).toNat)
  case atStart => exact ⟨0, Nat.zero_le _, rfl, fun j hj => by omega, (by (with_reducible (repeat' (first | exact Ext.refl _ | assumption | refine Ext.drew ?_ | refine Ext.drewN ?_ _ | refine Ext.alloc ?_ _ | refine Ext.setCell ?_ ?_ _ | refine Ext.trans ?_ (by assumption)))); all_goals (first | (simp; done) | (simp; omega)))⟩
  case round =>
    obtain ⟨k, hk, rfl, hall, hext⟩ := hrel
    have HA := hide hall
    clear hall
    have hz := hext.size
    have d0 := (hext.cell (p := ⟨p, 0, none⟩) hp).trans c0
    have d1 := (hext.cell (p := ⟨p, 1, none⟩) hp).trans c1
    have d2 := (hext.cell (p := ⟨p, 2, none⟩) hp).trans c2
    by_cases hlt : k < l.length
    · have dk := (HC.out.ext hb hext) k hlt
      cases hbad : bad W H s l[k]
      · go_wp2_with (first | (go_at_call 77; refine (has1_any W H s _ p _ hr (by omega) d0 d1 d2).mono ?_; rintro e w1 ⟨rfl, hb1⟩; obtain ⟨hc1, hf1⟩ := hb1.cells; have hz1 := hb1.size; (repeat (first | rw [World.size_alloc] at hz1 | rw [World.size_drew] at hz1))))
        go_roundw
        case rel => exact ⟨k + 1, by omega, by go_num, fun j hj hj' => by
                    by_cases e : j = k
                    · subst e; exact hbad
                    · exact HA.out j (by omega) hj', (by (with_reducible (repeat' (first | exact Ext.refl _ | assumption | refine Ext.drew ?_ | refine Ext.drewN ?_ _ | refine Ext.alloc ?_ _ | refine Ext.setCell ?_ ?_ _ | refine Ext.trans ?_ (by assumption)))); all_goals (first | (simp; done) | (simp; omega)))⟩
        case measure => simp [intOf]; omega
      · go_wp2_with (first | (go_at_call 77; refine (has1_any W H s _ p _ hr (by omega) d0 d1 d2).mono ?_; rintro e w1 ⟨rfl, hb1⟩; obtain ⟨hc1, hf1⟩ := hb1.cells; have hz1 := hb1.size; (repeat (first | rw [World.size_alloc] at hz1 | rw [World.size_drew] at hz1))))
        go_ret
        exact ⟨by rw [fidx_at hlt (fun j hj => HA.out j hj (by omega)) hbad]; rfl, (by (with_reducible (repeat' (first | exact Ext.refl _ | assumption | refine Ext.drew ?_ | refine Ext.drewN ?_ _ | refine Ext.alloc ?_ _ | refine Ext.setCell ?_ ?_ _ | refine Ext.trans ?_ (by assumption)))); all_goals (first | (simp; done) | (simp; omega)))⟩
    · go_wp2
      go_ret
      exact ⟨by rw [fidx_none (fun j hj => HA.out j (by omega) hj)]; rfl, (by (with_reducible (repeat' (first | exact Ext.refl _ | assumption | refine Ext.drew ?_ | refine Ext.drewN ?_ _ | refine Ext.alloc ?_ _ | refine Ext.setCell ?_ ?_ _ | refine Ext.trans ?_ (by assumption)))); all_goals (first | (simp; done) | (simp; omega)))⟩

theorem containsFunc_has (W H s : Int) (p b off cap : Nat) (l : List Int) (w : World) (hr : rightB W H s = true) (hp : p < w.heap.size) (hb : b < w.heap.size)
    (c0 : w.cell? ⟨p, 0, none⟩ = some (.int .i64 W)) (c1 : w.cell? ⟨p, 1, none⟩ = some (.int .i64 H)) (c2 : w.cell? ⟨p, 2, none⟩ = some (.int .i64 s))
    (hl : l.length ≤ 1000000) (hcells : IntsAt w b off l) :
    Calls Try.prog 76 #[.slice (some ⟨b, off, none⟩) l.length cap, .func (.func 77) #[] #[.pointer (some ⟨p, 0, none⟩)]] w fun e w' => e = .returned (.bool (l.any (bad W H s))) ∧ Ext w w' := by
  have HC := hide hcells
  clear hcells
  go_enter Try.func76, Try.ntmps76
  go_wp2_with (first | (go_at_call 102; refine (indexFunc_has W H s p b off cap l _ hr hp hb c0 c1 c2 hl HC.out).mono ?_; rintro e w1 ⟨rfl, hb1⟩; obtain ⟨hc1, hf1⟩ := hb1.cells; have hz1 := hb1.size; (repeat (first | rw [World.size_alloc] at hz1 | rw [World.size_drew] at hz1))))
  go_ret
  exact ⟨by rw [← fidx_ge]; rfl, (by (with_reducible (repeat' (first | exact Ext.refl _ | assumption | refine Ext.drew ?_ | refine Ext.drewN ?_ _ | refine Ext.alloc ?_ _ | refine Ext.setCell ?_ ?_ _ | refine Ext.trans ?_ (by assumption)))); all_goals (first | (simp; done) | (simp; omega)))⟩

def hasE (W H s : Int) (l : List Int) : Int := if rightB W H s then (if l.any (bad W H s) then 10 else 0) else 1

theorem has_any (W H s : Int) (b off cap : Nat) (l : List Int) (w : World) (hb : b < w.heap.size) (hl : l.length ≤ 1000000) (hcells : IntsAt w b off l) :
    Calls Try.prog 56 #[.agg #[.int .i64 W, .int .i64 H, .int .i64 s], .slice (some ⟨b, off, none⟩) l.length cap] w fun e w' => e = .returned (.int .i64 (hasE W H s l)) ∧ Ext w w' := by
  have HC := hide hcells
  clear hcells
  cases hr : rightB W H s
  · go_enter Try.func56, Try.ntmps56
    go_wp2_with (first | (go_at_call 60; refine (right_any _ _ _ _).mono ?_; rintro e w1 ⟨rfl, hb1⟩; obtain ⟨hc1, hf1⟩ := hb1.cells; have hz1 := hb1.size; (repeat (first | rw [World.size_alloc] at hz1 | rw [World.size_drew] at hz1)); have z1_0 : w.heap.size < w1.heap.size := (by omega)))
    go_ret
    exact ⟨by simp [hasE, hr], (by (with_reducible (repeat' (first | exact Ext.refl _ | assumption | refine Ext.drew ?_ | refine Ext.drewN ?_ _ | refine Ext.alloc ?_ _ | refine Ext.setCell ?_ ?_ _ | refine Ext.trans ?_ (by assumption)))); all_goals (first | (simp; done) | (simp; omega)))⟩
  · cases ha : l.any (bad W H s)
    all_goals
      go_enter Try.func56, Try.ntmps56
      go_wp2_with (first
        | (go_at_call 60; refine (right_any _ _ _ _).mono ?_; rintro e w1 ⟨rfl, hb1⟩; obtain ⟨hc1, hf1⟩ := hb1.cells; have hz1 := hb1.size; (repeat (first | rw [World.size_alloc] at hz1 | rw [World.size_drew] at hz1)); have z1_0 : w.heap.size < w1.heap.size := (by omega))
        | (go_at_call 76; refine (containsFunc_has W H s _ b off cap l _ hr (by omega) (by omega) (by simp [*]) (by simp [*]) (by simp [*]) hl (HC.out.ext hb (Ext.trans (Ext.alloc (Ext.refl _) _) (by assumption)))).mono ?_; rintro e w2 ⟨rfl, hb2⟩; obtain ⟨hc2, hf2⟩ := hb2.cells; have hz2 := hb2.size; (repeat (first | rw [World.size_alloc] at hz2 | rw [World.size_drew] at hz2))))
      go_ret
      exact ⟨by simp [hasE, hr, ha], (by (with_reducible (repeat' (first | exact Ext.refl _ | assumption | refine Ext.drew ?_ | refine Ext.drewN ?_ _ | refine Ext.alloc ?_ _ | refine Ext.setCell ?_ ?_ _ | refine Ext.trans ?_ (by assumption)))); all_goals (first | (simp; done) | (simp; omega)))⟩

theorem has_ok (W H s : Int) (b off cap : Nat) (l : List Int) (w : World) (hr : rightB W H s = true) (ha : l.any (bad W H s) = false) (hb : b < w.heap.size) (hl : l.length ≤ 1000000) (hcells : IntsAt w b off l) :
    Calls Try.prog 56 #[.agg #[.int .i64 W, .int .i64 H, .int .i64 s], .slice (some ⟨b, off, none⟩) l.length cap] w fun e w' => e = .returned (.int .i64 0) ∧ Ext w w' :=
  (has_any W H s b off cap l w hb hl hcells).mono fun e w' ⟨he, hx⟩ => ⟨by rw [he]; simp [hasE, hr, ha], hx⟩

theorem bad_false {W H s id : Int} (h0 : 0 ≤ id) (hid : id < cnt W H s) : bad W H s id = false := by simp [bad]; omega
theorem bad_false_iff {W H s id : Int} : bad W H s id = false ↔ 0 ≤ id ∧ id < cnt W H s := by simp [bad]

theorem one_at (w : World) (x : Int) (t : TypeId) (b : Nat) (hb : b = w.heap.size) : IntsAt (w.alloc (.cells #[.int .i64 x] t)) b 0 [x] := by
  subst hb
  intro k hk
  simp at hk; subst hk
  simp [go_sem]
theorem two_at (w : World) (x y : Int) (t : TypeId) (b : Nat) (hb : b = w.heap.size) : IntsAt (w.alloc (.cells #[.int .i64 x, .int .i64 y] t)) b 0 [x, y] := by
  subst hb
  intro k hk
  simp at hk
  match k, hk with
  | 0, _ => simp [go_sem]
  | 1, _ => simp [go_sem]
end Go.Proofs.Ytkonojjillcfiaa

/- Walks of part: Beside and its closure. -/
namespace Go.Proofs.Ytkonojjillcfiaa
open Go.RowKit

theorem T_ints : ElemT Try.prog 103 3 (.int .i64 0) 1 8 := ⟨Try.underlying103, by kernel_rfl, rfl, by decide⟩

/-- The state of a closure that appends numbers: the variable's block q, the row among the blocks behind it. -/
def Acc (w : World) (q : Nat) (l : List Int) : Prop := ∃ v, w.heap[q]? = some (.cells #[v] 103 (0, 0)) ∧ Own intE w (q + 1) 3 v l

theorem Acc.lt {w : World} {q : Nat} {l : List Int} (h : Acc w q l) : q < w.heap.size := lt_of_block h.choose_spec.1

theorem Acc.ext {w w' : World} {q : Nat} {l : List Int} (h : Acc w q l) (he : Ext w w') : Acc w' q l := by
  obtain ⟨v, hq, ho⟩ := h
  exact ⟨v, (he.block (lt_of_block hq)).trans hq, ho.ext he⟩

theorem beside1_yes (n : Int) (q : Nat) (l : List Int) (w : World) (h : Acc w q l) (hl : l.length ≤ 1000000) :
    Calls Try.prog 79 #[.bool true, .int .i64 n, .pointer (some ⟨q, 0, none⟩)] w fun e w' => e = .returned (.tuple #[]) ∧ Below q w w' ∧ Acc w' q (l ++ [n]) := by
  obtain ⟨v, hq, hown⟩ := h
  have hc := cell_of_one hq
  have hlt := lt_of_block hq
  have HO := hide hown
  have HQ := hide hq
  clear hown hq
  go_enter Try.func79, Try.ntmps79
  go_wp2_with (at_builtin; refine wpList_app intE T_ints rfl _ _ rfl (q + 1) _ _ l rfl HO.out n _ _ rfl _ rfl rfl (by omega) (by omega) (by omega) ?_; intro g c w' hown' hbel; have hc' := (hbel.cell (p := ⟨q, 0, none⟩) (by simp)).trans hc; have hq' := (hbel.block q (by omega)).trans HQ.out; have hf' := free_of_one hq'; have HO' := hide hown'; have HQ' := hide hq'; clear hown' hq')
  go_end0
  refine ⟨rfl, (Below.mono hbel (by omega)).setCell (by simp) _, _, one_setCell HQ'.out, HO'.out.setCell (by simp) _⟩

theorem beside1_no (n : Int) (q : Nat) (w : World) :
    Calls Try.prog 79 #[.bool false, .int .i64 n, .pointer (some ⟨q, 0, none⟩)] w fun e w' => e = .returned (.tuple #[]) ∧ w = w' := by
  go_enter Try.func79, Try.ntmps79
  go_wp2
  go_end0
  exact ⟨rfl, rfl⟩

def opt (b : Bool) (n : Int) : List Int := if b then [n] else []
theorem opt_len (b : Bool) (n : Int) : (opt b n).length ≤ 1 := by cases b <;> simp [opt]

theorem beside1_any (b : Bool) (n : Int) (q : Nat) (l : List Int) (w : World) (h : Acc w q l) (hl : l.length ≤ 1000000) :
    Calls Try.prog 79 #[.bool b, .int .i64 n, .pointer (some ⟨q, 0, none⟩)] w fun e w' => e = .returned (.tuple #[]) ∧ Below q w w' ∧ Acc w' q (l ++ opt b n) := by
  cases b
  · exact (beside1_no n q w).mono fun e w' ⟨he, hw⟩ => by subst hw; exact ⟨he, Below.refl _ _, by simpa [opt] using h⟩
  · exact (beside1_yes n q l w h hl).mono fun e w' ⟨he, hb, ha⟩ => ⟨he, hb, by simpa [opt] using ha⟩

def besideL (W H s id : Int) : List Int :=
  opt (decide (acr W s ≤ id)) (id - acr W s) ++ opt (decide (id % acr W s < acr W s - 1)) (id + 1) ++ opt (decide (id + acr W s < cnt W H s)) (id + acr W s) ++ opt (decide (0 < id % acr W s)) (id - 1)

def RetInts (w : World) (L : List Int) (err : Int) (e : Ending) (w' : World) : Prop := ∃ v, e = .returned (.tuple #[v, .int .i64 err]) ∧ Ext w w' ∧ Own intE w' w.heap.size 3 v L

theorem Beside_no (W H s id : Int) (w : World) (hr : (hasE W H s [id] != 0) = true) :
    Calls Try.prog 57 #[.agg #[.int .i64 W, .int .i64 H, .int .i64 s], .int .i64 id] w fun e w' => e = .returned (.tuple #[.slice none 0 0, .int .i64 (hasE W H s [id])]) ∧ Ext w w' := by
  go_enter Try.func57, Try.ntmps57
  go_wp2_with (first
    | (go_at_call 56; refine (has_any W H s _ 0 _ [id] _ (by simp) (by simp) (by exact one_at _ _ _ _ (by simp))).mono ?_; rintro e w1 ⟨rfl, hb1⟩; obtain ⟨hc1, hf1⟩ := hb1.cells; have hz1 := hb1.size; (repeat (first | rw [World.size_alloc] at hz1 | rw [World.size_drew] at hz1)); have z1_0 : w.heap.size < w1.heap.size := (by omega)))
  go_ret2
  exact ⟨rfl, (by (with_reducible (repeat' (first | exact Ext.refl _ | assumption | refine Ext.drew ?_ | refine Ext.drewN ?_ _ | refine Ext.alloc ?_ _ | refine Ext.setCell ?_ ?_ _ | refine Ext.trans ?_ (by assumption)))); all_goals (first | (simp; done) | (simp; omega)))⟩

set_option maxHeartbeats 400000 in
theorem Beside_yes (W H s id : Int) (w : World) (hr : rightB W H s = true) (h0 : 0 ≤ id) (hid : id < cnt W H s) :
    Calls Try.prog 57 #[.agg #[.int .i64 W, .int .i64 H, .int .i64 s], .int .i64 id] w (RetInts w (besideL W H s id) 0) := by
  obtain ⟨h1, h2, h3, h4, h5, h6⟩ := rightB_true.1 hr
  have b0 := cnt_bd hr
  have b1 := acr_bd W s h5 h6 h1 h2
  have hbad := bad_false h0 hid
  have hany : [id].any (bad W H s) = false := by simp [hbad]
  have b3 : 0 ≤ id % acr W s ∧ id % acr W s ≤ 65536 := ⟨Int.emod_nonneg _ (by omega), Int.le_trans (emod_le h0 (by omega)) (by omega)⟩
  have k2 : id.tmod (acr W s) = id % acr W s := tmod_in h0 (by omega) (by omega)
  have hs0 : ¬ acr W s = 0 := by omega
  clear hbad
  go_enter Try.func57, Try.ntmps57
  go_wp2_with (first
    | (go_at_call 56; refine (has_ok W H s _ 0 _ [id] _ hr hany (by simp) (by simp) (by exact one_at _ _ _ _ (by simp))).mono ?_; rintro e w1 ⟨rfl, hb1⟩; obtain ⟨hc1, hf1⟩ := hb1.cells; have hz1 := hb1.size; (repeat (first | rw [World.size_alloc] at hz1 | rw [World.size_drew] at hz1)); have z1_0 : w.heap.size < w1.heap.size := (by omega))
    | (go_at_call 62; refine (across_any _ _ _ _ _ (by omega) (by omega) (by omega) (by omega)).mono ?_; rintro e w2 ⟨rfl, hb2⟩; obtain ⟨hc2, hf2⟩ := hb2.cells; have hz2 := hb2.size; (repeat (first | rw [World.size_alloc] at hz2 | rw [World.size_drew] at hz2)); have z2_0 : w.heap.size < w2.heap.size := (by omega)))
  have A0 : Acc (w2.alloc (.cells #[.slice none 0 0] 103)) w2.heap.size [] := ⟨_, heap_alloc_new _ _, Own.nil _ _ _ _⟩
  refine (beside1_any _ _ w2.heap.size [] _ A0 (by simp)).mono ?_
  rintro e w3 ⟨rfl, hb3, A3⟩
  have hc3 := below_cells hb3
  have hz3 := hb3.size
  simp only [World.size_alloc] at hz3
  have z3_0 : w.heap.size < w3.heap.size := by omega
  have l3 : ([] ++ opt (decide (acr W s ≤ id)) (id - acr W s)).length ≤ 1 := by simpa using opt_len _ _
  generalize hL3 : [] ++ opt (decide (acr W s ≤ id)) (id - acr W s) = L3 at *
  have HL3 := hide hL3
  clear hL3 A0
  go_wp2_with fail
  refine (beside1_any _ _ w2.heap.size L3 _ A3 (by omega)).mono ?_
  rintro e w4 ⟨rfl, hb4, A4⟩
  have hc4 := below_cells hb4
  have hz4 := hb4.size
  have z4_0 : w.heap.size < w4.heap.size := by omega
  have l4 : (L3 ++ opt (decide (id % acr W s < acr W s - 1)) (id + 1)).length ≤ 2 := by have := opt_len (decide (id % acr W s < acr W s - 1)) (id + 1); simp; omega
  generalize hL4 : L3 ++ opt (decide (id % acr W s < acr W s - 1)) (id + 1) = L4 at *
  have HL4 := hide hL4
  clear hL4
  clear A3
  go_wp2_with (first | (go_at_call 78; refine (count_yes _ _ _ _ hr).mono ?_; rintro e w5 ⟨rfl, hb5⟩; obtain ⟨hc5, hf5⟩ := hb5.cells; have hz5 := hb5.size; (repeat (first | rw [World.size_alloc] at hz5 | rw [World.size_drew] at hz5)); have z5_0 : w.heap.size < w5.heap.size := (by omega)))
  refine (beside1_any _ _ w2.heap.size L4 _ (A4.ext hb5) (by omega)).mono ?_
  rintro e w6 ⟨rfl, hb6, A6⟩
  have hc6 := below_cells hb6
  have hz6 := hb6.size
  have z6_0 : w.heap.size < w6.heap.size := by omega
  have l6 : (L4 ++ opt (decide (id + acr W s < cnt W H s)) (id + acr W s)).length ≤ 3 := by have := opt_len (decide (id + acr W s < cnt W H s)) (id + acr W s); simp; omega
  generalize hL6 : L4 ++ opt (decide (id + acr W s < cnt W H s)) (id + acr W s) = L6 at *
  have HL6 := hide hL6
  clear hL6 A4
  go_wp2_with fail
  refine (beside1_any _ _ w2.heap.size L6 _ A6 (by omega)).mono ?_
  rintro e w7 ⟨rfl, hb7, A7⟩
  obtain ⟨v, hq, ho⟩ := A7
  have hv := cell_of_one hq
  have HQ := hide hq
  have HO := hide ho
  clear hq ho A6
  go_wp2_with fail
  go_ret2
  have hx : Ext w w2 := (by (with_reducible (repeat' (first | exact Ext.refl _ | assumption | refine Ext.drew ?_ | refine Ext.drewN ?_ _ | refine Ext.alloc ?_ _ | refine Ext.setCell ?_ ?_ _ | refine Ext.trans ?_ (by assumption)))); all_goals (first | (simp; done) | (simp; omega)))
  have hy : Ext w w7 := (Ext.alloc hx (.cells #[.slice none 0 0] 103)).of_below (((hb3.trans hb4).trans (hb5.below.mono (by omega))).trans (hb6.trans hb7)) hx.size
  refine ⟨v, rfl, hy, ?_⟩
  have e : L6 ++ opt (decide (0 < id % acr W s)) (id - 1) = besideL W H s id := by rw [← HL6.out, ← HL4.out, ← HL3.out]; rfl
  rw [← e]
  exact HO.out.lower (by have := hx.size; omega)
end Go.Proofs.Ytkonojjillcfiaa
