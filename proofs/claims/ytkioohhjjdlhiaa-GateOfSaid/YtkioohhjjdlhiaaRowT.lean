/- A row of one's own: an element turned, cut short, its rest cleared; cells. -/
import Derived.Test.YtkioohhjjdlhiaaPartB
import Derived.Laws.IdiomCopy
set_option linter.all false
set_option linter.unusedVariables false
set_option linter.unusedSimpArgs false
namespace Go.Proofs.Ytkioohhjjdlhiaa
open Go.RowKit

theorem T_cellsG : ElemT Try.prog 39 52 (.agg #[.int .i64 0, .int .i64 0]) 2 16 := ⟨Try.underlying39, by kernel_rfl, rfl, by decide⟩
def setManyG (xs : List Value) (off : Nat) : List Value → List Value
  | [] => xs
  | u :: us => setManyG (xs.set off u) (off + 1) us
theorem setMany_midG (us : List Value) : ∀ (pre mid post : List Value), us.length = mid.length → setManyG (pre ++ (mid ++ post)) pre.length us = pre ++ (us ++ post) := by
  induction us with
  | nil => intro pre mid post h; have : mid = [] := List.eq_nil_of_length_eq_zero h.symm; subst this; rfl
  | cons u us ih =>
    intro pre mid post h
    cases mid with
    | nil => simp at h
    | cons m mid =>
      simp only [setManyG]
      have e : (pre ++ (m :: mid ++ post)).set pre.length u = (pre ++ [u]) ++ (mid ++ post) := by simp
      rw [e]
      have := ih (pre ++ [u]) mid post (by simpa using h)
      simp only [List.length_append, List.length_cons, List.length_nil, Nat.zero_add] at this
      rw [this]; simp
theorem flat_setG {α : Type} (E : Enc α) (l : List α) (i : Nat) (a : α) (hi : i < l.length) : (l.set i a).flatMap E.cells = setManyG (l.flatMap E.cells) (i * E.size) (E.cells a) := by
  have e : l = l.take i ++ l[i] :: l.drop (i + 1) := by simp
  have e2 : l.set i a = l.take i ++ a :: l.drop (i + 1) := by rw [List.set_eq_take_append_cons_drop, if_pos hi]
  have hl : ((l.take i).flatMap E.cells).length = i * E.size := by rw [E.flat_len, List.length_take, Nat.min_eq_left (by omega)]
  rw [e2]
  conv => rhs; rw [e]
  rw [List.flatMap_append, List.flatMap_append, List.flatMap_cons, List.flatMap_cons, ← hl]
  exact (setMany_midG (E.cells a) _ _ _ (by rw [E.len, E.len])).symm
def setRunG (w : World) (g off : Nat) : List Value → World
  | [] => w
  | u :: us => setRunG (w.setCell ⟨g, off, none⟩ u) g (off + 1) us
theorem setRun_touchG (g : Nat) (us : List Value) : ∀ (w : World) (off : Nat), Touch (fun k => k = g) w (setRunG w g off us) := by
  induction us with
  | nil => intro w off; exact Touch.refl _ _
  | cons u us ih =>
    intro w off
    have h1 : Touch (fun k => k = g) w (w.setCell ⟨g, off, none⟩ u) := (Touch.refl (fun k => k = g) w).setCell (p := ⟨g, off, none⟩) (.inl rfl) u
    exact h1.trans (ih _ _)
theorem setRun_ownsG {base : Nat} {e : TypeId} {size g n cap : Nat} (us : List Value) : ∀ (w : World) (off : Nat) (xs : List Value), w.ownsRow base e size (.slice (some ⟨g, 0, none⟩) n cap) n xs → (setRunG w g off us).ownsRow base e size (.slice (some ⟨g, 0, none⟩) n cap) n (setManyG xs off us) := by
  induction us with
  | nil => intro w off xs h; exact h
  | cons u us ih => intro w off xs h; exact ih _ _ _ (h.stored off u).1
theorem Own.turnG {α : Type} {E : Enc α} {w : World} {base : Nat} {e : TypeId} {g n c : Nat} {l : List α} (h : Own E w base e (.slice (some ⟨g, 0, none⟩) n c) l) {i : Nat} (hi : i < l.length) (a : α) : Own E (setRunG w g (i * E.size) (E.cells a)) base e (.slice (some ⟨g, 0, none⟩) n c) (l.set i a) := by
  obtain ⟨a', c', e'⟩ := h.slice
  have en : n = l.length := by injection e'
  subst en
  unfold Own at h ⊢
  rw [List.length_set, flat_setG E l i a hi]
  exact setRun_ownsG _ _ _ _ h

theorem run_clear_cellsG {P : Program} (w : World) (t e ty : TypeId) (z : Value) (ht : P.underlying t = some (.slice e)) (hv : ∀ w, (zeroValue e).run P w = .ok z w) (h1 : ∀ i, i < z.cells.size → (z.cells[i]!).oneCell' = true) (b o n c : Nat) (hn : 0 < n) (hs : 0 < z.cells.size)
    (hc : ∀ j, j < n * z.cells.size → (w.cell? ⟨b, o + j, none⟩).isSome = true) (hf : ∀ j, j < n * z.cells.size → w.frozen? ⟨b, o + j, none⟩ = false) :
    ∃ zs : List Value, zs.length = n * z.cells.size ∧ (Builtin.clear_ #[t] ty #[.slice (some ⟨b, o, none⟩) n c]).run P w = .ok (.tuple #[]) (w.setCells b o zs) := by
  have hlen : (Builtin.zeroCells z.cells n).toList.length = n * z.cells.size := by simp [Builtin.zeroCells]
  refine ⟨(Builtin.zeroCells z.cells n).toList, hlen, ?_⟩
  have hone : ∀ v ∈ (Builtin.zeroCells z.cells n).toList, v.oneCell' = true := by
    intro v hv'
    unfold Builtin.zeroCells at hv'
    simp only [Array.toList_map, Array.toList_range, List.mem_map, List.mem_range] at hv'
    obtain ⟨i, _, rfl⟩ := hv'
    exact h1 _ (Nat.mod_lt _ hs)
  have hst := run_storeCells_cells (P := P) b o (Builtin.zeroCells z.cells n).toList 0 w (by rw [hlen]; simpa using hc) (by rw [hlen]; simpa using hf) hone
  simp only [Nat.add_zero] at hst
  obtain ⟨m, rfl⟩ : ∃ m, n = m + 1 := ⟨n - 1, by omega⟩
  simp [Builtin.clear_, run_underlying ht, hv, hst]

theorem flat_takeG {α : Type} (E : Enc α) (l : List α) : ∀ i, (l.take i).flatMap E.cells = (l.flatMap E.cells).take (i * E.size) := by
  induction l with
  | nil => simp
  | cons a l ih =>
    intro i
    cases i with
    | zero => simp
    | succ i =>
      rw [List.take_succ_cons, List.flatMap_cons, List.flatMap_cons, ih, List.take_append, E.len, Nat.add_mul, Nat.one_mul, Nat.add_sub_cancel]
      rw [List.take_of_length_le (l := E.cells a) (by rw [E.len]; omega)]
theorem Own.cutG {α : Type} {E : Enc α} {w : World} {base : Nat} {e : TypeId} {g n c i : Nat} {l : List α} (h : Own E w base e (.slice (some ⟨g, 0, none⟩) n c) l) (hi : i ≤ n) : Own E w base e (.slice (some ⟨g, 0, none⟩) i c) (l.take i) := by
  obtain ⟨a', c', e'⟩ := h.slice
  have en : n = l.length := by injection e'
  subst en
  rcases h.2 with ⟨h0, _⟩ | ⟨g', cap, cur, hv, hb, hg, h1, h2, h3, h4⟩
  · cases h0
  · cases hv
    have hl : (l.take i).length = i := by rw [List.length_take]; omega
    refine ⟨by rw [E.flat_len], .inr ⟨g, c, cur, by rw [hl], hb, hg, by rw [hl]; omega, h2, h3, ?_⟩⟩
    rw [hl, flat_takeG, ← h4, List.take_take]
    congr 1
    exact (Nat.min_eq_left (Nat.mul_le_mul_right _ hi)).symm
theorem Own.tail_setG {α : Type} {E : Enc α} {w : World} {base : Nat} {e : TypeId} {g i c : Nat} {l : List α} (h : Own E w base e (.slice (some ⟨g, 0, none⟩) i c) l) (zs : List Value) (hfit : i * E.size + zs.length ≤ c * E.size) : Own E (w.setCells g (i * E.size) zs) base e (.slice (some ⟨g, 0, none⟩) i c) l := by
  obtain ⟨a', c', e'⟩ := h.slice
  have en : i = l.length := by injection e'
  subst en
  rcases h.2 with ⟨h0, _⟩ | ⟨g', cap, cur, hv, hb, hg, h1, h2, h3, h4⟩
  · cases h0
  · cases hv
    obtain ⟨cur1, k1, k2, k3⟩ := setCells_at g e zs (l.length * E.size) w cur hg (by omega)
    refine ⟨by rw [E.flat_len], .inr ⟨g, c, cur1, rfl, hb, k1, h1, h2, by omega, ?_⟩⟩
    rw [k3, ← h4, List.append_assoc, List.take_append, List.length_take]
    rw [List.take_take]
    have : min (l.length * E.size) cur.toList.length = l.length * E.size := Nat.min_eq_left (by have := Array.length_toList (xs := cur); omega)
    rw [this, Nat.min_self, Nat.sub_self, List.take_zero, List.append_nil]

theorem cell_cellsG {w : World} {base g n c : Nat} {l : List Cell} (h : Own cellE w base 52 (.slice (some ⟨g, 0, none⟩) n c) l) {k : Nat} {p : Cell} (hk : l[k]? = some p) :
    w.cell? ⟨g, k * 2, none⟩ = some (.int .i64 p.1) ∧ w.cell? ⟨g, k * 2 + 1, none⟩ = some (.int .i64 p.2) ∧ g < w.heap.size := by
  obtain ⟨a, c', e⟩ := h.slice
  have en : n = l.length := by injection e
  subst en
  have hkl := (List.getElem?_eq_some_iff.1 hk).1
  have h' : w.ownsRow base 52 2 (.slice (some ⟨g, 0, none⟩) l.length c) l.length (l.flatMap cellE.cells) := h
  refine ⟨?_, ?_, (own_lt h rfl).2⟩
  · have := flat_at cellE l k p hk 0 _ rfl
    rw [h'.cellAt (k * 2) (by omega)]
    exact this
  · have := flat_at cellE l k p hk 1 _ rfl
    rw [h'.cellAt (k * 2 + 1) (by omega)]
    exact this
end Go.Proofs.Ytkioohhjjdlhiaa
