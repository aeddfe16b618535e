/- Walks of the heap's ahead and swap: the heap in memory. -/
import Derived.Test.YtifbmapianddcaaHeapA
import Derived.BigRegion
set_option linter.all false
set_option linter.unusedVariables false
set_option linter.unusedSimpArgs false
namespace Go.Proofs.Ytifbmapianddcaa
open Go.RowKit

def thingE : Enc Thing := ⟨5, fun t => [.int .i64 t.1, .int .u64 t.2.1.1, .int .u64 t.2.1.2, .int .i64 t.2.2.1, .int .i64 t.2.2.2], fun _ => rfl, fun _ u hu => by simp at hu; rcases hu with rfl | rfl | rfl | rfl | rfl <;> rfl⟩
theorem T_things : ElemT Try.prog 178 222 (.agg #[.int .i64 0, .int .u64 0, .int .u64 0, .int .i64 0, .int .i64 0]) 5 40 := ⟨Try.underlying178, by kernel_rfl, rfl, by decide⟩

def KM : MapK := ⟨121, 3, 3, .i64, .i64⟩
theorem KM_ok : KM.Ok Try.prog := ⟨Try.underlying121, Try.underlying3, Try.underlying3, fun _ => by kernel_rfl⟩

theorem ahead_any (a b : Thing) (w : World) : Calls Try.prog 189 #[thingV a, thingV b] w fun e w' => e = .returned (.bool (aheadB a b)) ∧ Ext w w' := by
  obtain ⟨i, ka⟩ := a
  obtain ⟨j, kb⟩ := b
  have HL := hide (fun w' => hLess_any ka kb w')
  have HE := fun w' => eq_key ka kb w'
  obtain ⟨r, hr⟩ : ∃ r, aheadB (i, ka) (j, kb) = r := ⟨_, rfl⟩
  rw [hr]
  have HR := hide hr
  clear hr
  obtain ⟨⟨f, h⟩, y, x⟩ := ka
  obtain ⟨⟨f', h'⟩, y', x'⟩ := kb
  unfold thingV
  simp only
  unfold keyV at HL HE
  simp only at HL HE
  by_cases hk : ((f, h), (y, x)) = ((f', h'), (y', x'))
  · have hd : decide (((f, h), (y, x)) = ((f', h'), (y', x'))) = true := by simpa using hk
    have HA := hide (show r = decide (i < j) by rw [← HR.out]; unfold aheadB; rw [if_pos hk])
    rw [hd] at HE
    clear hd hk
    go_enter Try.func189, Try.ntmps189
    go_wp2
    go_ret
    exact ⟨by rw [HA.out]; rfl, (by (with_reducible (repeat' (first | exact Ext.refl _ | assumption | refine Ext.drew ?_ | refine Ext.drewN ?_ _ | refine Ext.alloc ?_ _ | refine Ext.setCell ?_ ?_ _ | refine Ext.trans ?_ (by assumption)))); all_goals (first | (simp; done) | (simp; omega)))⟩
  · have hd : decide (((f, h), (y, x)) = ((f', h'), (y', x'))) = false := by simpa using hk
    have HA := hide (show r = lessB ((f, h), (y, x)) ((f', h'), (y', x')) by rw [← HR.out]; unfold aheadB; rw [if_neg hk])
    rw [hd] at HE
    clear hd hk
    go_enter Try.func189, Try.ntmps189
    go_wp2_with (go_at_call 156; refine (HL.out _).mono ?_; rintro e w1 ⟨rfl, hb1⟩; obtain ⟨hc1, hf1⟩ := hb1.cells; have hz1 := hb1.size; (repeat (first | rw [World.size_alloc] at hz1 | rw [World.size_drew] at hz1)); have z1_0 : w.heap.size < w1.heap.size := (by omega); have z1_1 : w.heap.size + 1 < w1.heap.size := (by omega))
    go_ret
    exact ⟨by rw [HA.out]; rfl, (by (with_reducible (repeat' (first | exact Ext.refl _ | assumption | refine Ext.drew ?_ | refine Ext.drewN ?_ _ | refine Ext.alloc ?_ _ | refine Ext.setCell ?_ ?_ _ | refine Ext.trans ?_ (by assumption)))); all_goals (first | (simp; done) | (simp; omega)))⟩

/-- A heap in memory: its struct, the row of things, and the map that tells where each one stands. -/
structure HeapAt (w : World) (h : Nat) (v : Value) (mb : Nat) (l : List Thing) : Prop where
  blk : Blk w h 180 #[v, .map (some mb)]
  own : Own thingE w 0 222 v l
  map : MapIn Try.prog KM w mb (posO (ids l)) l.length
  nodup : (ids l).Nodup
  wf : ∀ t ∈ l, Fits64 .i64 t.1

theorem thing_cells {w : World} {g n c : Nat} {l : List Thing} (h : Own thingE w 0 222 (.slice (some ⟨g, 0, none⟩) n c) l) {i : Nat} (hi : i < l.length) :
    (w.cell? ⟨g, i * 5, none⟩ = some (.int .i64 (tat l i).1) ∧ w.cell? ⟨g, i * 5 + 1, none⟩ = some (.int .u64 (tat l i).2.1.1) ∧ w.cell? ⟨g, i * 5 + 2, none⟩ = some (.int .u64 (tat l i).2.1.2) ∧ w.cell? ⟨g, i * 5 + 3, none⟩ = some (.int .i64 (tat l i).2.2.1) ∧ w.cell? ⟨g, i * 5 + 4, none⟩ = some (.int .i64 (tat l i).2.2.2)) ∧
    (w.frozen? ⟨g, i * 5, none⟩ = false ∧ w.frozen? ⟨g, i * 5 + 1, none⟩ = false ∧ w.frozen? ⟨g, i * 5 + 2, none⟩ = false ∧ w.frozen? ⟨g, i * 5 + 3, none⟩ = false ∧ w.frozen? ⟨g, i * 5 + 4, none⟩ = false) := by
  obtain ⟨a, c', e⟩ := h.slice
  have en : n = l.length := by injection e
  subst en
  have h' : w.ownsRow 0 222 5 (.slice (some ⟨g, 0, none⟩) l.length c) l.length (l.flatMap thingE.cells) := h
  have key : ∀ j, j < 5 → ∀ u, (thingE.cells (tat l i))[j]? = some u → w.cell? ⟨g, i * 5 + j, none⟩ = some u := by
    intro j hj u hu
    rw [h'.cellAt (i * 5 + j) (by omega)]
    exact flat_at thingE l i (tat l i) (by rw [List.getElem?_eq_getElem hi, tat_lt hi]) j u hu
  exact ⟨⟨key 0 (by omega) _ rfl, key 1 (by omega) _ rfl, key 2 (by omega) _ rfl, key 3 (by omega) _ rfl, key 4 (by omega) _ rfl⟩, h'.frozenAt _, h'.frozenAt _, h'.frozenAt _, h'.frozenAt _, h'.frozenAt _⟩

/-! ### a row's element turned, cell by cell -/
def setMany (xs : List Value) (off : Nat) : List Value → List Value
  | [] => xs
  | u :: us => setMany (xs.set off u) (off + 1) us
theorem setMany_mid (us : List Value) : ∀ (pre mid post : List Value), us.length = mid.length → setMany (pre ++ (mid ++ post)) pre.length us = pre ++ (us ++ post) := by
  induction us with
  | nil => intro pre mid post h; have : mid = [] := List.eq_nil_of_length_eq_zero h.symm; subst this; rfl
  | cons u us ih =>
    intro pre mid post h
    cases mid with
    | nil => simp at h
    | cons m mid =>
      simp only [setMany]
      have e : (pre ++ (m :: mid ++ post)).set pre.length u = (pre ++ [u]) ++ (mid ++ post) := by simp
      rw [e]
      have := ih (pre ++ [u]) mid post (by simpa using h)
      simp only [List.length_append, List.length_cons, List.length_nil, Nat.zero_add] at this
      rw [this]; simp
theorem flat_set {α : Type} (E : Enc α) (l : List α) (i : Nat) (a : α) (hi : i < l.length) : (l.set i a).flatMap E.cells = setMany (l.flatMap E.cells) (i * E.size) (E.cells a) := by
  have e : l = l.take i ++ l[i] :: l.drop (i + 1) := by simp
  have e2 : l.set i a = l.take i ++ a :: l.drop (i + 1) := by rw [List.set_eq_take_append_cons_drop, if_pos hi]
  have hl : ((l.take i).flatMap E.cells).length = i * E.size := by rw [E.flat_len, List.length_take, Nat.min_eq_left (by omega)]
  rw [e2]
  conv => rhs; rw [e]
  rw [List.flatMap_append, List.flatMap_append, List.flatMap_cons, List.flatMap_cons, ← hl]
  exact (setMany_mid (E.cells a) _ _ _ (by rw [E.len, E.len])).symm
def setRun (w : World) (g off : Nat) : List Value → World
  | [] => w
  | u :: us => setRun (w.setCell ⟨g, off, none⟩ u) g (off + 1) us
theorem setRun_touch (g : Nat) (us : List Value) : ∀ (w : World) (off : Nat), Touch (fun k => k = g) w (setRun w g off us) := by
  induction us with
  | nil => intro w off; exact Touch.refl _ _
  | cons u us ih =>
    intro w off
    have h1 : Touch (fun k => k = g) w (w.setCell ⟨g, off, none⟩ u) := (Touch.refl (fun k => k = g) w).setCell (p := ⟨g, off, none⟩) (.inl rfl) u
    exact h1.trans (ih _ _)
theorem setRun_owns {base : Nat} {e : TypeId} {size g n cap : Nat} (us : List Value) : ∀ (w : World) (off : Nat) (xs : List Value), w.ownsRow base e size (.slice (some ⟨g, 0, none⟩) n cap) n xs → (setRun w g off us).ownsRow base e size (.slice (some ⟨g, 0, none⟩) n cap) n (setMany xs off us) := by
  induction us with
  | nil => intro w off xs h; exact h
  | cons u us ih => intro w off xs h; exact ih _ _ _ (h.stored off u).1
theorem Own.turn {α : Type} {E : Enc α} {w : World} {base : Nat} {e : TypeId} {g n c : Nat} {l : List α} (h : Own E w base e (.slice (some ⟨g, 0, none⟩) n c) l) {i : Nat} (hi : i < l.length) (a : α) : Own E (setRun w g (i * E.size) (E.cells a)) base e (.slice (some ⟨g, 0, none⟩) n c) (l.set i a) := by
  obtain ⟨a', c', e'⟩ := h.slice
  have en : n = l.length := by injection e'
  subst en
  unfold Own at h ⊢
  rw [List.length_set, flat_set E l i a hi]
  exact setRun_owns _ _ _ _ h

/-- The blocks of a heap. -/
def HFoot (h : Nat) (v : Value) (mb : Nat) (k : Nat) : Prop := k = h ∨ v.ownBlock = some k ∨ k = mb

section
variable {w : World} {h : Nat} {v : Value} {mb : Nat} {l : List Thing}
theorem HeapAt.vh (H : HeapAt w h v mb l) : v.ownBlock ≠ some h := H.blk.ne_own H.own (by decide)
theorem HeapAt.vm (H : HeapAt w h v mb l) : v.ownBlock ≠ some mb := by obtain ⟨D, h1, _⟩ := H.map; exact own_ne_map H.own h1
theorem HeapAt.hm (H : HeapAt w h v mb l) : h ≠ mb := by obtain ⟨D, h1, _⟩ := H.map; exact H.blk.ne_map h1
theorem HeapAt.touch {S : Nat → Prop} {w' : World} (H : HeapAt w h v mb l) (t : Touch S w w') (hs : ∀ k, HFoot h v mb k → ¬ S k) : HeapAt w' h v mb l :=
  ⟨H.blk.touch t (hs h (.inl rfl)), H.own.touch t (fun k hk => hs k (.inr (.inl hk))), H.map.touch t (hs mb (.inr (.inr rfl))), H.nodup, H.wf⟩
theorem HeapAt.ext {w' : World} (H : HeapAt w h v mb l) (t : Ext w w') : HeapAt w' h v mb l := H.touch (Touch.of_ext (S := fun _ => False) t) (fun _ _ x => x)
theorem HeapAt.foot_lt (H : HeapAt w h v mb l) {k : Nat} (hk : HFoot h v mb k) : k < w.heap.size := by
  rcases hk with rfl | hk | rfl
  · exact H.blk.lt
  · exact (own_lt H.own hk).2
  · exact H.map.lt
end

theorem swap_pos {l : List Thing} (hn : (ids l).Nodup) {i k : Nat} (hi : i < l.length) (hk : k < l.length) (x : Int) :
    upd (upd (posO (ids l)) (tat l k).1 i) (tat l i).1 k x = posO (ids (swp l i k)) x := by
  have hp := ids_perm (swp_perm hi hk)
  have hn' : (ids (swp l i k)).Nodup := hp.nodup_iff.2 hn
  have inj : ∀ {p q : Nat}, p < l.length → q < l.length → (tat l p).1 = (tat l q).1 → p = q := by
    intro p q h1 h2 e
    have e1 := ids_get h1
    have e2 := ids_get h2
    obtain ⟨_, g1⟩ := List.getElem?_eq_some_iff.1 e1
    obtain ⟨_, g2⟩ := List.getElem?_eq_some_iff.1 e2
    exact (List.getElem_inj (h₀ := by rw [ids_len]; exact h1) (h₁ := by rw [ids_len]; exact h2) hn).1 (by rw [g1, g2, e])
  refine posO_ext hn' (fun j y hj => ?_) (fun y hy => ?_) x
  · have hjl : j < l.length := by
      obtain ⟨h1, _⟩ := List.getElem?_eq_some_iff.1 hj
      rw [ids_len, swp_len] at h1; exact h1
    rw [ids_get (by rw [swp_len]; exact hjl), tat_swp hi hk] at hj
    have hj := Option.some.inj hj
    unfold upd
    by_cases e1 : j = k
    · subst e1
      rw [if_pos rfl] at hj
      rw [if_pos hj.symm]
    · rw [if_neg e1] at hj
      by_cases e2 : j = i
      · subst e2
        rw [if_pos rfl] at hj
        rw [if_neg (by rw [← hj]; exact fun e => e1 (inj hk hi e).symm), if_pos hj.symm]
      · rw [if_neg e2] at hj
        rw [if_neg (by rw [← hj]; exact fun e => e2 (inj hjl hi e)), if_neg (by rw [← hj]; exact fun e => e1 (inj hjl hk e)), ← hj]
        exact posO_at hn (ids_get hjl)
  · have hy' : y ∉ ids l := fun h => hy (hp.mem_iff.2 h)
    have m1 : (tat l k).1 ∈ ids l := List.mem_of_getElem? (ids_get hk)
    have m2 : (tat l i).1 ∈ ids l := List.mem_of_getElem? (ids_get hi)
    unfold upd
    rw [if_neg (by rintro rfl; exact hy' m2), if_neg (by rintro rfl; exact hy' m1)]
    exact posO_none hy'

theorem fits_nat {n : Nat} (h : n ≤ 1000000) : Fits64 .i64 (n : Int) := by
  unfold Fits64
  have hmin : IntKind.i64.min = -9223372036854775808 := rfl
  have hmax : IntKind.i64.max = 9223372036854775807 := rfl
  simp only [Lit.wf, Bool.and_eq_true, decide_eq_true_eq]
  omega
theorem pos_some {l : List Thing} {i : Nat} (hi : i < l.length) : (posO (ids l) (tat l i).1).isSome = true := by
  rw [posO_some]; simpa using List.mem_of_getElem? (ids_get hi)

set_option maxRecDepth 100000 in
set_option maxHeartbeats 4000000 in
theorem swap_any {w : World} {h g c mb : Nat} {l : List Thing} (H : HeapAt w h (.slice (some ⟨g, 0, none⟩) l.length c) mb l) {i k : Nat} (hi : i < l.length) (hk : k < l.length) (hl : l.length ≤ 1000000) : Calls Try.prog 157 #[.pointer (some ⟨h, 0, none⟩), .int .i64 i, .int .i64 k] w fun e w' => e = .returned (.tuple #[]) ∧ HeapAt w' h (.slice (some ⟨g, 0, none⟩) l.length c) mb (swp l i k) ∧ Touch (HFoot h (.slice (some ⟨g, 0, none⟩) l.length c) mb) w w' := by
  obtain ⟨⟨a0, a1, a2, a3, a4⟩, fa0, fa1, fa2, fa3, fa4⟩ := thing_cells H.own hi
  obtain ⟨⟨b0, b1, b2, b3, b4⟩, fb0, fb1, fb2, fb3, fb4⟩ := thing_cells H.own hk
  have c0 : w.cell? ⟨h, 0, none⟩ = some (.slice (some ⟨g, 0, none⟩) l.length c) := H.blk.cell 0
  have c1 : w.cell? ⟨h, 1, none⟩ = some (.map (some mb)) := H.blk.cell 1
  have HH := hide H
  obtain ⟨w1, hw1⟩ : ∃ w1, w1 = setRun (setRun w g (i * 5) (thingE.cells (tat l k))) g (k * 5) (thingE.cells (tat l i)) := ⟨_, rfl⟩
  have HW1 := hide hw1
  have o1 : Own thingE w1 0 222 (.slice (some ⟨g, 0, none⟩) l.length c) (swp l i k) := by
    rw [hw1]
    exact (H.own.turn hi (tat l k)).turn (by simpa using hk) (tat l i)
  have t1 : Touch (fun k => k = g) w w1 := by
    rw [hw1]
    exact (setRun_touch g _ _ _).trans (setRun_touch g _ _ _)
  have gh : ¬ h = g := fun e => H.vh (by rw [e]; rfl)
  have gm : ¬ mb = g := fun e => H.vm (by rw [e]; rfl)
  have b1' := H.blk.touch t1 gh
  have m1' := H.map.touch t1 gm
  have hS : (swp l i k).length = l.length := swp_len _ _ _
  obtain ⟨⟨d0, _⟩, _⟩ := thing_cells o1 (i := i) (by omega)
  obtain ⟨⟨d1, _⟩, _⟩ := thing_cells o1 (i := k) (by omega)
  have dk : (tat (swp l i k) k).1 = (tat l i).1 := by rw [tat_swp hi hk, if_pos rfl]
  have di : (tat (swp l i k) i).1 = (tat l k).1 := by
    rw [tat_swp hi hk]
    by_cases e : i = k
    · rw [if_pos e, e]
    · rw [if_neg e, if_pos rfl]
  rw [di] at d0
  rw [dk] at d1
  obtain ⟨v0, st, w4, w5, r4, _, r5, m5, t5⟩ := m1'.drew.drew.entry KM_ok (x := (tat l k).1) (c := i) (H.wf _ (by rw [tat_lt hk]; exact List.getElem_mem hk)) (fits_nat (by omega)) hl
  have q5 : (if (posO (ids l) (tat l k).1).isSome then l.length else l.length + 1) = l.length := by rw [if_pos (pos_some hk)]
  rw [q5] at m5
  obtain ⟨v0', st', w6, w7, r6, _, r7, m7, t7⟩ := m5.entry KM_ok (x := (tat l i).1) (c := k) (H.wf _ (by rw [tat_lt hi]; exact List.getElem_mem hi)) (fits_nat (by omega)) hl
  have q7 : (if (upd (posO (ids l)) (tat l k).1 i (tat l i).1).isSome then l.length else l.length + 1) = l.length := by
    rw [if_pos]
    unfold upd
    split
    · rfl
    · exact pos_some hi
  rw [q7] at m7
  have M7 := hide (m7.congr (swap_pos H.nodup hi hk))
  have T7 := hide (t1.mono (S' := HFoot h (.slice (some ⟨g, 0, none⟩) l.length c) mb) (fun k _ hk => .inr (.inl (by rw [hk]; rfl))) |>.trans (((Touch.refl _ w1).drew.drew.trans (t5.mono (fun k _ hk => .inr (.inr hk)))).trans (t7.mono (fun k _ hk => .inr (.inr hk)))))
  have t17 : Touch (fun k => k = mb) w1 w7 := ((Touch.refl _ w1).drew.drew.trans t5).trans t7
  have F7 := hide (show HeapAt w7 h (.slice (some ⟨g, 0, none⟩) l.length c) mb (swp l i k) from ⟨b1'.touch t17 H.hm, o1.touch t17 (fun k hk => by simp only [Value.ownBlock, Option.some.injEq] at hk; subst hk; exact fun e => gm e.symm), by rw [hS]; exact M7.out, (ids_perm (swp_perm hi hk)).nodup_iff.2 H.nodup, fun t ht => H.wf t ((swp_perm hi hk).mem_iff.1 ht)⟩)
  have e0 : w1.cell? ⟨h, 0, none⟩ = some (.slice (some ⟨g, 0, none⟩) l.length c) := b1'.cell 0
  have e1 : w1.cell? ⟨h, 1, none⟩ = some (.map (some mb)) := b1'.cell 1
  clear o1 t1 gh gm b1' m1' hS dk di m5 t5 q5 m7 t7 q7 M7 t17 hw1
  simp only [KM] at r4 r5 r6 r7
  have KE := hide (show _ ∧ _ ∧ _ ∧ _ ∧ _ ∧ _ ∧ _ ∧ _ from ⟨d0, d1, r4, r5, r6, r7, e0, e1⟩)
  clear d0 d1 r4 r5 r6 r7 e0 e1
  obtain ⟨n, hn⟩ : ∃ n, l.length = n := ⟨_, rfl⟩
  rw [hn] at c0 hi hk F7 T7 KE ⊢
  have HN := hide hn
  generalize tat l i = A at *
  generalize tat l k = B at *
  obtain ⟨A0, ⟨A1, A2⟩, A3, A4⟩ := A
  obtain ⟨B0, ⟨B1, B2⟩, B3, B4⟩ := B
  simp only at a0 a1 a2 a3 a4 b0 b1 b2 b3 b4
  have hi' : (i : Int) < (n : Int) := by omega
  have hk' : (k : Int) < (n : Int) := by omega
  have far : ∀ (w : World) (p q : Nat) (u : Value), p ≠ q → (w.setCell ⟨g, p, none⟩ u).cell? ⟨g, q, none⟩ = w.cell? ⟨g, q, none⟩ := fun w p q u hpq => World.cell?_setCell_other _ _ _ _ (by intro x; injection x; omega)
  have two : ∀ (w : World) (p q : Nat) (u : Value), w.cell? ⟨g, q, none⟩ = some u → (w.setCell ⟨g, p, none⟩ u).cell? ⟨g, q, none⟩ = some u := by
    intro w p q u hu
    by_cases e : p = q
    · subst e; exact World.cell?_setCell_same _ _ _ hu
    · rw [far _ _ _ _ e]; exact hu
  have t0 : (w.setCell ⟨g, i * 5, none⟩ (.int .i64 B0)).cell? ⟨g, k * 5, none⟩ = some (.int .i64 B0) := two _ _ _ _ (by  exact b0)
  have t1 : ((w.setCell ⟨g, i * 5, none⟩ (.int .i64 B0)).setCell ⟨g, i * 5 + 1, none⟩ (.int .u64 B1)).cell? ⟨g, k * 5 + 1, none⟩ = some (.int .u64 B1) := two _ _ _ _ (by rw [far _ _ _ _ (by omega)]; exact b1)
  have t2 : (((w.setCell ⟨g, i * 5, none⟩ (.int .i64 B0)).setCell ⟨g, i * 5 + 1, none⟩ (.int .u64 B1)).setCell ⟨g, i * 5 + 2, none⟩ (.int .u64 B2)).cell? ⟨g, k * 5 + 2, none⟩ = some (.int .u64 B2) := two _ _ _ _ (by rw [far _ _ _ _ (by omega)]; rw [far _ _ _ _ (by omega)]; exact b2)
  have t3 : ((((w.setCell ⟨g, i * 5, none⟩ (.int .i64 B0)).setCell ⟨g, i * 5 + 1, none⟩ (.int .u64 B1)).setCell ⟨g, i * 5 + 2, none⟩ (.int .u64 B2)).setCell ⟨g, i * 5 + 3, none⟩ (.int .i64 B3)).cell? ⟨g, k * 5 + 3, none⟩ = some (.int .i64 B3) := two _ _ _ _ (by rw [far _ _ _ _ (by omega)]; rw [far _ _ _ _ (by omega)]; rw [far _ _ _ _ (by omega)]; exact b3)
  have t4 : (((((w.setCell ⟨g, i * 5, none⟩ (.int .i64 B0)).setCell ⟨g, i * 5 + 1, none⟩ (.int .u64 B1)).setCell ⟨g, i * 5 + 2, none⟩ (.int .u64 B2)).setCell ⟨g, i * 5 + 3, none⟩ (.int .i64 B3)).setCell ⟨g, i * 5 + 4, none⟩ (.int .i64 B4)).cell? ⟨g, k * 5 + 4, none⟩ = some (.int .i64 B4) := two _ _ _ _ (by rw [far _ _ _ _ (by omega)]; rw [far _ _ _ _ (by omega)]; rw [far _ _ _ _ (by omega)]; rw [far _ _ _ _ (by omega)]; exact b4)
  clear far two
  clear H hn
  go_enter Try.func157, Try.ntmps157
  go_wp2
  go_region
  clear t0 t1 t2 t3 t4 a0 a1 a2 a3 a4 b0 b1 b2 b3 b4 fa0 fa1 fa2 fa3 fa4 fb0 fb1 fb2 fb3 fb4 c0 c1
  rw [show (((((((((w.setCell ⟨g, i * 5, none⟩ (.int .i64 B0)).setCell ⟨g, i * 5 + 1, none⟩ (.int .u64 B1)).setCell ⟨g, i * 5 + 2, none⟩ (.int .u64 B2)).setCell ⟨g, i * 5 + 3, none⟩ (.int .i64 B3)).setCell ⟨g, i * 5 + 4, none⟩ (.int .i64 B4)).setCell ⟨g, k * 5, none⟩ (.int .i64 A0)).setCell ⟨g, k * 5 + 1, none⟩ (.int .u64 A1)).setCell ⟨g, k * 5 + 2, none⟩ (.int .u64 A2)).setCell ⟨g, k * 5 + 3, none⟩ (.int .i64 A3)).setCell ⟨g, k * 5 + 4, none⟩ (.int .i64 A4) = w1 from HW1.out.symm]
  obtain ⟨d0, d1, r4, r5, r6, r7, e0, e1⟩ := KE.out
  try simp only at d0
  try simp only at d1
  try simp only at r4
  try simp only at r6
  clear KE HW1
  go_wp2
  go_region
  go_end0
  exact ⟨rfl, F7.out, T7.out⟩
end Go.Proofs.Ytifbmapianddcaa
