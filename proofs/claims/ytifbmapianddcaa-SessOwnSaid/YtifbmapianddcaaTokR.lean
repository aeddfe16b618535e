/- Rows of tokens of the call's own that may begin within their block (row[1:]); append to one; the reference's Find. -/
import Derived.Test.YtifbmapianddcaaSessB
import Derived.ArgAppend
set_option linter.all false
set_option linter.unusedVariables false
set_option linter.unusedSimpArgs false
namespace Go.Proofs.Ytifbmapianddcaa
open Go.RowKit

/-- A row of the call's own that may begin within its block. -/
def RowO (w : World) (v : Value) (l : List Int) : Prop :=
  (v = .slice none 0 0 ∧ l = []) ∨ ∃ g off cap, v = .slice (some ⟨g, off, none⟩) l.length cap ∧ g < w.heap.size ∧ l.length ≤ cap ∧
    U64sAt w g off l ∧ (∀ j, j < cap → (w.cell? ⟨g, off + j, none⟩).isSome = true ∧ w.frozen? ⟨g, off + j, none⟩ = false)

section
variable {w w' : World} {v : Value} {l : List Int}
theorem RowO.nil (w : World) : RowO w (.slice none 0 0) [] := .inl ⟨rfl, rfl⟩
theorem RowO.slice (h : RowO w v l) : ∃ a c, v = .slice a l.length c := by
  rcases h with ⟨rfl, rfl⟩ | ⟨g, off, cap, rfl, _⟩
  · exact ⟨none, 0, rfl⟩
  · exact ⟨_, _, rfl⟩
theorem RowO.lt (h : RowO w v l) {k : Nat} (hk : v.ownBlock = some k) : k < w.heap.size := by
  rcases h with ⟨rfl, _⟩ | ⟨g, off, cap, rfl, hg, _⟩
  · cases hk
  · simp only [Value.ownBlock, Option.some.injEq] at hk; omega
theorem RowO.touch {S : Nat → Prop} (h : RowO w v l) (t : Touch S w w') (hs : ∀ k, v.ownBlock = some k → ¬ S k) : RowO w' v l := by
  rcases h with h | ⟨g, off, cap, rfl, hg, hl, hc, hf⟩
  · exact .inl h
  · have hn : ¬ S g := hs g rfl
    refine .inr ⟨g, off, cap, rfl, Nat.lt_of_lt_of_le hg t.size, hl, fun k hk => ?_, fun j hj => ?_⟩
    · rw [t.cell (p := ⟨g, off + k, none⟩) hg hn]; exact hc k hk
    · rw [t.cell (p := ⟨g, off + j, none⟩) hg hn, t.frozen (p := ⟨g, off + j, none⟩) hg hn]; exact hf j hj
theorem RowO.ext (h : RowO w v l) (x : Ext w w') : RowO w' v l := h.touch (Touch.of_ext (S := fun _ => False) x) (fun _ _ x => x)
theorem RowO.reads (h : RowO w v l) : Reads u64E w v l := by
  rcases h with h | ⟨g, off, cap, rfl, hg, hl, hc, hf⟩
  · exact .inl h
  · refine .inr ⟨g, off, cap, rfl, hg, fun k y hk j u hu => ?_⟩
    obtain ⟨hk', rfl⟩ := List.getElem?_eq_some_iff.1 hk
    match j, hu with
    | 0, hu =>
      simp [u64E] at hu
      subst hu
      simpa [u64E] using hc k hk'
    | j + 1, hu => simp [u64E] at hu
theorem RowO.of_own {base : Nat} (h : Own u64E w base 38 v l) : RowO w v l := by
  have hr := h.reads
  unfold Own at h
  rcases h.2 with ⟨hv, h0⟩ | ⟨g, cap, cur, rfl, hb, hg, hn, hm, hs, ht⟩
  · exact .inl ⟨hv, List.eq_nil_of_length_eq_zero h0⟩
  · have hlt : g < w.heap.size := lt_of_block hg
    refine .inr ⟨g, 0, cap, rfl, hlt, hn, (Reads.u64s hr).2, fun j hj => ?_⟩
    have hs' : cur.size = cap := by simpa [u64E] using hs
    have hB : Blk w g 38 cur := hg
    rw [Nat.zero_add, hB.cell j, hB.frozen j]
    refine ⟨?_, rfl⟩
    rw [Array.getElem?_eq_getElem (by omega)]
    rfl
/-- Its rest. -/
theorem RowO.tail {t : Int} {r : List Int} {g off n cap : Nat} (h : RowO w (.slice (some ⟨g, off, none⟩) n cap) (t :: r)) : RowO w (.slice (some ⟨g, off + 1, none⟩) r.length (cap - 1)) r := by
  rcases h with ⟨h, _⟩ | ⟨g', off', cap', hv, hg, hl, hc, hf⟩
  · cases h
  · simp only [Value.slice.injEq, Option.some.injEq, Addr.mk.injEq] at hv
    obtain ⟨⟨rfl, rfl, _⟩, _, rfl⟩ := hv
    simp only [List.length_cons] at hl
    refine .inr ⟨g, off + 1, cap - 1, rfl, hg, by omega, fun k hk => ?_, fun j hj => ?_⟩
    · have := hc (k + 1) (by simp; omega)
      rw [show off + 1 + k = off + (k + 1) by omega]
      simpa using this
    · rw [show off + 1 + j = off + (j + 1) by omega]
      exact hf (j + 1) (by omega)
theorem RowO.rest {t : Int} {r : List Int} {g off n cap : Nat} (h : RowO w (.slice (some ⟨g, off, none⟩) n cap) (t :: r)) :
    (cap = 1 ∧ r = [] ∧ RowO w (.slice (some ⟨g, off, none⟩) 0 0) []) ∨ (1 < cap ∧ RowO w (.slice (some ⟨g, off + 1, none⟩) r.length (cap - 1)) r) := by
  have h2 := h.tail
  rcases h with ⟨h, _⟩ | ⟨g', off', cap', hv, hg, hl, hc, hf⟩
  · cases h
  · simp only [Value.slice.injEq, Option.some.injEq, Addr.mk.injEq] at hv
    obtain ⟨⟨rfl, rfl, _⟩, _, rfl⟩ := hv
    simp only [List.length_cons] at hl
    by_cases h1 : cap = 1
    · have h0 : r = [] := List.eq_nil_of_length_eq_zero (by omega)
      exact .inl ⟨h1, h0, .inr ⟨g, off, 0, rfl, hg, Nat.le_refl _, fun k hk => by simp at hk, fun j hj => by omega⟩⟩
    · exact .inr ⟨by omega, h2⟩
theorem RowO.cons {t : Int} {r : List Int} (h : RowO w v (t :: r)) : ∃ g off cap, v = .slice (some ⟨g, off, none⟩) (r.length + 1) cap ∧ g < w.heap.size ∧ w.cell? ⟨g, off, none⟩ = some (.int .u64 t) ∧ r.length + 1 ≤ cap := by
  rcases h with ⟨_, h⟩ | ⟨g, off, cap, rfl, hg, hl, hc, hf⟩
  · cases h
  · refine ⟨g, off, cap, rfl, hg, ?_, hl⟩
    have := hc 0 (by simp)
    simpa using this
end

/-- append of one token: where the new row lies, and what was written. -/
theorem wpList_app_o {ops : Array Oper} {rest : List Oper} {o : Oper} {a : Act} {Q : Exit → Act → World → Prop}
    (hgd : o.guard = none) (s x : Operand) (ho : o.op = .call { callee := .builtin .append, args := #[s, x], argTypes := #[33, 33] })
    (w : World) (v : Value) (l : List Int) (hs : a.eval s = v) (hown : RowO w v l)
    (y : Int) (cs : Array Value) (e' : TypeId) (hcs : cs = #[.int .u64 y]) (b : Nat) (hb : b = w.heap.size) (hx : a.eval x = .slice (some ⟨b, 0, none⟩) 1 1)
    (hl : l.length ≤ 1000000000)
    (h : ∀ v' w', RowO w' v' (l ++ [y]) → Touch (fun k => v.ownBlock = some k) w w' → (∀ k, v'.ownBlock = some k → v.ownBlock = some k ∨ w.heap.size ≤ k) → wpList Try.prog ops Q rest (a.put o.dst v') w') : wpList Try.prog ops Q (o :: rest) a (w.alloc (.cells cs e')) := by
  rcases hown with ⟨rfl, rfl⟩ | ⟨g, off, cap, rfl, hg, hlc, hc, hf⟩
  · refine wpList_app_at u64E T_u64s hgd s x ho 0 w _ [] hs (Own.nil _ _ _ _) y cs e' (by rw [hcs]; rfl) b hb hx (by simp) (by simp) (Nat.zero_le _) ?_
    intro g c w' o t hl
    refine h _ _ (RowO.of_own o) t (fun k hk => ?_)
    simp only [Value.ownBlock, Option.some.injEq] at hk
    subst hk
    exact hl
  · subst hb
    subst hcs
    obtain ⟨i0, hi, hz0, hz1, hz2⟩ := info_parts T_u64s.info
    have hcell : ∀ k (hk : k < l.length), (w.alloc (.cells #[.int .u64 y] e')).cell? ⟨g, off + k, none⟩ = some (.int .u64 l[k]) := fun k hk => by
      rw [((Ext.refl w).alloc _).cell (p := ⟨g, off + k, none⟩) hg]; exact hc k hk
    have hspare : ∀ j, j < cap → ((w.alloc (.cells #[.int .u64 y] e')).cell? ⟨g, off + j, none⟩).isSome = true ∧ (w.alloc (.cells #[.int .u64 y] e')).frozen? ⟨g, off + j, none⟩ = false := fun j hj => by
      rw [((Ext.refl w).alloc _).cell (p := ⟨g, off + j, none⟩) hg, ((Touch.of_ext (S := fun _ => False) ((Ext.refl w).alloc _)).frozen (p := ⟨g, off + j, none⟩) hg (fun x => x))]; exact hf j hj
    have hgz : g < (w.alloc (.cells #[.int .u64 y] e')).heap.size := by simp; omega
    refine wpList_append_arg _ hgd s x 33 ho 38 i0 (.int .u64 0) 1 8 T_u64s.under hi hz0 hz1 hz2 T_u64s.zs T_u64s.pos g off l.length cap (l.map (Value.int .u64)) hs (by simp)
      (fun j u hu => ?_) ⟨w.heap.size, 0, none⟩ 1 1 [.int .u64 y] hx rfl (cell_one_new w _ _) (by simp [Value.oneCell']) (fun hr j hj => ?_) (by unfold maxLen; omega) (by omega) (fun hr => ?_) (fun hr v' w' ho' hg' => ?_)
    · rw [List.getElem?_map] at hu
      cases hq : l[j]? with
      | none => rw [hq] at hu; cases hu
      | some z =>
        rw [hq] at hu
        obtain ⟨hj, rfl⟩ := List.getElem?_eq_some_iff.1 hq
        simp at hu
        subst hu
        exact hcell j hj
    · simp at hj
      subst hj
      simpa using hspare l.length (by omega)
    · have e : (w.alloc (.cells #[.int .u64 y] e')).setCells g (off + l.length * 1) [.int .u64 y] = (w.alloc (.cells #[.int .u64 y] e')).setCell ⟨g, off + l.length, none⟩ (.int .u64 y) := by rw [Nat.mul_one]; rfl
      rw [e]
      refine h _ _ ?_ (((Touch.refl (fun k => (Value.slice (some ⟨g, off, none⟩) l.length cap).ownBlock = some k) w).alloc _).setCell (p := ⟨g, off + l.length, none⟩) (.inl rfl) _) (fun k hk => .inl hk)
      refine .inr ⟨g, off, cap, by simp, by simp; omega, by simpa using hr, fun k hk => ?_, fun j hj => ?_⟩
      · by_cases hkl : k < l.length
        · rw [World.cell?_setCell_other _ _ _ _ (fun e => by simp at e; try omega), List.getElem_append_left hkl]
          exact hcell k hkl
        · obtain rfl : k = l.length := by simp at hk; omega
          rw [World.cell?_setCell_same' _ _ _ (hspare l.length (by omega)).1]
          simp
      · refine ⟨?_, ?_⟩
        · by_cases hjl : j = l.length
          · subst hjl
            rw [World.cell?_setCell_same' _ _ _ (hspare l.length hj).1]; rfl
          · rw [World.cell?_setCell_other _ _ _ _ (fun e => by simp at e; try omega)]
            exact (hspare j hj).1
        · rw [World.frozen?_setCell]; exact (hspare j hj).2
    · have ho2 : Own u64E w' (w.heap.size + 1) 38 v' (l ++ [y]) := by
        unfold Own
        have e : (l ++ [y]).flatMap u64E.cells = l.map (Value.int .u64) ++ [.int .u64 y] := by
          rw [List.flatMap_append]
          have h1 : ∀ q : List Int, q.flatMap u64E.cells = q.map (Value.int .u64) := fun q => by
            induction q with
            | nil => rfl
            | cons z q ih => rw [List.flatMap_cons, ih]; rfl
          rw [h1]; rfl
        have e2 : (w.alloc (.cells #[.int .u64 y] e')).heap.size = w.heap.size + 1 := by simp
        rw [e2] at ho'
        rw [e, show (l ++ [y]).length = l.length + 1 by simp]
        exact ho'
      refine h v' w' (RowO.of_own ho2) (((Touch.refl _ w).alloc _).grown hg' (fun k hk => by cases hk)) (fun k hk => .inr ?_)
      have := (own_lt ho2 hk).1
      omega
/-- The first place of a token, or -1. -/
def findI (l : List Int) (x : Int) : Int := match l.findIdx? (· == x) with | some i => (i : Int) | none => -1
theorem findI_some {l : List Int} {x : Int} {k : Nat} (hk : k < l.length) (he : l[k] = x) (hb : ∀ j (hj : j < k) (hj' : j < l.length), (l[j] == x) = false) : findI l x = (k : Int) := by
  unfold findI
  rw [List.findIdx?_eq_some_iff_getElem.2 ⟨hk, by simpa using he, fun j hj => by simpa using hb j hj (by omega)⟩]
theorem findI_none {l : List Int} {x : Int} (hb : ∀ j (hj' : j < l.length), (l[j] == x) = false) : findI l x = -1 := by
  unfold findI
  rw [List.findIdx?_eq_none_iff.2 (fun y hy => by obtain ⟨j, hj, rfl⟩ := List.getElem_of_mem hy; exact hb j hj)]
theorem findI_no {l : List Int} {x : Int} (h : x ∉ l) : findI l x = -1 :=
  findI_none (fun j hj => by rw [beq_eq_false_iff_ne]; rintro rfl; exact h (List.getElem_mem _))
theorem findI_yes {l : List Int} {x : Int} (h : x ∈ l) : ∃ k : Nat, findI l x = (k : Int) ∧ k < l.length ∧ l.eraseIdx k = l.erase x := by
  unfold findI
  have : (l.findIdx? (· == x)).isSome = true := by rw [List.findIdx?_isSome, List.any_eq_true]; exact ⟨x, h, by simp⟩
  obtain ⟨k, hk⟩ := Option.isSome_iff_exists.1 this
  rw [hk]
  have hk2 := hk
  rw [List.findIdx?_eq_some_iff_findIdx_eq] at hk2
  refine ⟨k, rfl, hk2.1, ?_⟩
  have e : l.idxOf x = k := hk2.2
  rw [List.erase_eq_eraseIdx_of_idxOf e]

theorem rkFind_any (x : Int) (v : Value) (l : List Int) (w : World) (hl : l.length ≤ 1000000) (hr : Reads u64E w v l) : Calls Try.prog 47 #[v, .int .u64 x] w fun e w' => e = .returned (.int .i64 (findI l x)) ∧ w = w' := by
  rcases hr with ⟨rfl, rfl⟩ | ⟨b, off, cap, rfl, hb, hc⟩
  · go_enter Try.func47, Try.ntmps47
    go_wp2
    go_loop [5] (fun i => i = .int .i64 0) (fun i => 0)
    case atStart => exact rfl
    case round =>
      obtain rfl := hrel
      go_wp2
      go_ret
      exact ⟨rfl, rfl⟩
  · have HC := hide (Reads.u64s (.inr ⟨b, off, cap, rfl, hb, hc⟩)).2
    clear hc
    go_enter Try.func47, Try.ntmps47
    go_wp2
    go_loop [5] (fun i => ∃ k : Nat, k ≤ l.length ∧ i = .int .i64 k ∧ (∀ j (hj : j < k) (hj' : j < l.length), (l[j] == x) = false)) (fun i => l.length - (intOf i).toNat)
    case atStart => exact ⟨0, Nat.zero_le _, rfl, fun j hj => by omega⟩
    case round =>
      obtain ⟨k, hk, rfl, hall⟩ := hrel
      have HA := hide hall
      clear hall
      by_cases hlt : k < l.length
      · have dk := HC.out k hlt
        cases hbad : (l[k] == x)
        · go_wp2
          go_round
          case rel => exact ⟨k + 1, by omega, by go_num, fun j hj hj' => by
              rcases Nat.lt_succ_iff_lt_or_eq.1 hj with h1 | rfl
              · exact HA.out j h1 hj'
              · exact hbad⟩
          case measure => simp [intOf]; omega
        · have HF := hide (findI_some hlt (by simpa using hbad) HA.out)
          go_wp2
          go_ret
          exact ⟨by rw [HF.out]; rfl, rfl⟩
      · have HF := hide (findI_none (l := l) (x := x) (fun j hj => HA.out j (by omega) hj))
        go_wp2
        go_ret
        exact ⟨by rw [HF.out]; rfl, rfl⟩

/-- The comparison of two rows of tokens. -/
theorem tokens21_same (v v' : Value) (l : List Int) (w : World) (hl : l.length ≤ 1000000) (hr : Reads u64E w v l) (hr' : Reads u64E w v' l) : Calls Try.prog 50 #[v, v'] w fun e w' => e = .returned (.bool true) ∧ Ext w w' := by
  obtain ⟨a, c, rfl⟩ := hr.slice
  obtain ⟨a', c', rfl⟩ := hr'.slice
  by_cases h0 : 0 < l.length
  · rcases hr with ⟨h1, rfl⟩ | ⟨b, off, cap, hv, hb, hc⟩
    · simp at h0
    rcases hr' with ⟨h1, rfl⟩ | ⟨b', off', cap', hv', hb', hc'⟩
    · simp at h0
    simp only [Value.slice.injEq] at hv hv'
    obtain ⟨rfl, _, rfl⟩ := hv
    obtain ⟨rfl, _, rfl⟩ := hv'
    have H1 := hide (Reads.u64s (.inr ⟨b, off, c, rfl, hb, hc⟩)).2
    have H2 := hide (Reads.u64s (.inr ⟨b', off', c', rfl, hb', hc'⟩)).2
    clear hc hc'
    go_enter Try.func50, Try.ntmps50
    go_wp2
    go_loopw [5] (fun i wr => ∃ k : Nat, k ≤ l.length ∧ i = .int .i64 k ∧ Ext w wr) (fun i _ => l.length - (intOf i).toNat)
    case atStart => exact ⟨0, Nat.zero_le _, rfl, Ext.refl _⟩
    case round =>
      obtain ⟨k, hk, rfl, hx⟩ := hrel
      by_cases hlt : k < l.length
      · have d1 := (hx.cell (p := ⟨b, off + k, none⟩) hb).trans (H1.out k hlt)
        have d2 := (hx.cell (p := ⟨b', off' + k, none⟩) hb').trans (H2.out k hlt)
        go_wp2_with fail
        go_quiet (fail)
        go_wp2
        go_roundw
        case rel => exact ⟨k + 1, by omega, by go_num, hx.drewN _⟩
        case measure => simp [intOf]; omega
      · go_wp2
        go_ret
        exact ⟨rfl, hx⟩
  · obtain rfl : l = [] := List.eq_nil_of_length_eq_zero (by omega)
    clear hr hr'
    go_enter Try.func50, Try.ntmps50
    go_wp2
    go_loopw [5] (fun i wr => i = .int .i64 0 ∧ Ext w wr) (fun i _ => 0)
    case atStart => exact ⟨rfl, Ext.refl _⟩
    case round =>
      obtain ⟨rfl, hx⟩ := hrel
      go_wp2
      go_ret
      exact ⟨rfl, hx⟩
end Go.Proofs.Ytifbmapianddcaa
