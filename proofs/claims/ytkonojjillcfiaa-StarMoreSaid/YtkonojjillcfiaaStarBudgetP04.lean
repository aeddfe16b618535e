/- Part 4 of 14 of the proof of StarBudget. -/
import Derived.Test.YtkonojjillcfiaaStarBudgetP02
import Derived.BigRegion
import Derived.WalkMore
import Derived.Test.YtkonojjillcfiaaStarBudgetP01
import Derived.Deep.AppendLies
import Derived.Deep.RegionLaw
import Derived.Deep.Cut
set_option linter.all false
set_option linter.unusedVariables false
set_option linter.unusedSimpArgs false
/- Walks of the heap's ahead and swap: the heap in memory. -/
namespace Go.Proofs.Ytkonojjillcfiaa
open Go.RowKit

def thingE : Enc Thing := ⟨5, fun t => [.int .i64 t.1, .int .u64 t.2.1.1, .int .u64 t.2.1.2, .int .i64 t.2.2.1, .int .i64 t.2.2.2], fun _ => rfl, fun _ u hu => by simp at hu; rcases hu with rfl | rfl | rfl | rfl | rfl <;> rfl⟩
theorem T_things : ElemT Try.prog 136 160 (.agg #[.int .i64 0, .int .u64 0, .int .u64 0, .int .i64 0, .int .i64 0]) 5 40 := ⟨Try.underlying136, by kernel_rfl, rfl, by decide⟩

def KM : MapK := ⟨114, 3, 3, .i64, .i64⟩
theorem KM_ok : KM.Ok Try.prog := ⟨Try.underlying114, Try.underlying3, Try.underlying3, fun _ => by kernel_rfl⟩

theorem ahead_any (a b : Thing) (w : World) : Calls Try.prog 112 #[thingV a, thingV b] w fun e w' => e = .returned (.bool (aheadB a b)) ∧ Ext w w' := by
  obtain ⟨i, ka⟩ := a
  obtain ⟨j, kb⟩ := b
  have HL := hide (fun w' => hLess_any ka kb w')
  have HE := fun w' => eq_key ka kb w'
  obtain ⟨r, hr⟩ : ∃ r, aheadB (i, ka) (j, kb) = r := ⟨_, rfl⟩
  rw [hr]
  have HR := hide hr
  clear hr
  obtain ⟨⟨f, h⟩, y, x⟩ := ka
  obtain ⟨⟨f', h'⟩, y', x'⟩ := kb
  unfold thingV
  simp only
  unfold keyV at HL HE
  simp only at HL HE
  by_cases hk : ((f, h), (y, x)) = ((f', h'), (y', x'))
  · have hd : decide (((f, h), (y, x)) = ((f', h'), (y', x'))) = true := by simpa using hk
    have HA := hide (show r = decide (i < j) by rw [← HR.out]; unfold aheadB; rw [if_pos hk])
    rw [hd] at HE
    clear hd hk
    go_enter Try.func112, Try.ntmps112
    go_wp2
    go_ret
    exact ⟨by rw [HA.out]; rfl, (by (with_reducible (repeat' (first | exact Ext.refl _ | assumption | refine Ext.drew ?_ | refine Ext.drewN ?_ _ | refine Ext.alloc ?_ _ | refine Ext.setCell ?_ ?_ _ | refine Ext.trans ?_ (by assumption)))); all_goals (first | (simp; done) | (simp; omega)))⟩
  · have hd : decide (((f, h), (y, x)) = ((f', h'), (y', x'))) = false := by simpa using hk
    have HA := hide (show r = lessB ((f, h), (y, x)) ((f', h'), (y', x')) by rw [← HR.out]; unfold aheadB; rw [if_neg hk])
    rw [hd] at HE
    clear hd hk
    go_enter Try.func112, Try.ntmps112
    go_wp2_with (go_at_call 105; refine (HL.out _).mono ?_; rintro e w1 ⟨rfl, hb1⟩; obtain ⟨hc1, hf1⟩ := hb1.cells; have hz1 := hb1.size; (repeat (first | rw [World.size_alloc] at hz1 | rw [World.size_drew] at hz1)); have z1_0 : w.heap.size < w1.heap.size := (by omega); have z1_1 : w.heap.size + 1 < w1.heap.size := (by omega))
    go_ret
    exact ⟨by rw [HA.out]; rfl, (by (with_reducible (repeat' (first | exact Ext.refl _ | assumption | refine Ext.drew ?_ | refine Ext.drewN ?_ _ | refine Ext.alloc ?_ _ | refine Ext.setCell ?_ ?_ _ | refine Ext.trans ?_ (by assumption)))); all_goals (first | (simp; done) | (simp; omega)))⟩

/-- A heap in memory: its struct, the row of things, and the map that tells where each one stands. -/
structure HeapAt (w : World) (h : Nat) (v : Value) (mb : Nat) (l : List Thing) : Prop where
  blk : Blk w h 138 #[v, .map (some mb)]
  own : Own thingE w 0 160 v l
  map : MapIn Try.prog KM w mb (posO (ids l)) l.length
  nodup : (ids l).Nodup
  wf : ∀ t ∈ l, Fits64 .i64 t.1

theorem thing_cells {w : World} {g n c : Nat} {l : List Thing} (h : Own thingE w 0 160 (.slice (some ⟨g, 0, none⟩) n c) l) {i : Nat} (hi : i < l.length) :
    (w.cell? ⟨g, i * 5, none⟩ = some (.int .i64 (tat l i).1) ∧ w.cell? ⟨g, i * 5 + 1, none⟩ = some (.int .u64 (tat l i).2.1.1) ∧ w.cell? ⟨g, i * 5 + 2, none⟩ = some (.int .u64 (tat l i).2.1.2) ∧ w.cell? ⟨g, i * 5 + 3, none⟩ = some (.int .i64 (tat l i).2.2.1) ∧ w.cell? ⟨g, i * 5 + 4, none⟩ = some (.int .i64 (tat l i).2.2.2)) ∧
    (w.frozen? ⟨g, i * 5, none⟩ = false ∧ w.frozen? ⟨g, i * 5 + 1, none⟩ = false ∧ w.frozen? ⟨g, i * 5 + 2, none⟩ = false ∧ w.frozen? ⟨g, i * 5 + 3, none⟩ = false ∧ w.frozen? ⟨g, i * 5 + 4, none⟩ = false) := by
  obtain ⟨a, c', e⟩ := h.slice
  have en : n = l.length := by injection e
  subst en
  have h' : w.ownsRow 0 160 5 (.slice (some ⟨g, 0, none⟩) l.length c) l.length (l.flatMap thingE.cells) := h
  have key : ∀ j, j < 5 → ∀ u, (thingE.cells (tat l i))[j]? = some u → w.cell? ⟨g, i * 5 + j, none⟩ = some u := by
    intro j hj u hu
    rw [h'.cellAt (i * 5 + j) (by omega)]
    exact flat_at thingE l i (tat l i) (by rw [List.getElem?_eq_getElem hi, tat_lt hi]) j u hu
  exact ⟨⟨key 0 (by omega) _ rfl, key 1 (by omega) _ rfl, key 2 (by omega) _ rfl, key 3 (by omega) _ rfl, key 4 (by omega) _ rfl⟩, h'.frozenAt _, h'.frozenAt _, h'.frozenAt _, h'.frozenAt _, h'.frozenAt _⟩

/-! ### a row's element turned, cell by cell -/
def setMany (xs : List Value) (off : Nat) : List Value → List Value
  | [] => xs
  | u :: us => setMany (xs.set off u) (off + 1) us
theorem setMany_mid (us : List Value) : ∀ (pre mid post : List Value), us.length = mid.length → setMany (pre ++ (mid ++ post)) pre.length us = pre ++ (us ++ post) := by
  induction us with
  | nil => intro pre mid post h; have : mid = [] := List.eq_nil_of_length_eq_zero h.symm; subst this; rfl
  | cons u us ih =>
    intro pre mid post h
    cases mid with
    | nil => simp at h
    | cons m mid =>
      simp only [setMany]
      have e : (pre ++ (m :: mid ++ post)).set pre.length u = (pre ++ [u]) ++ (mid ++ post) := by simp
      rw [e]
      have := ih (pre ++ [u]) mid post (by simpa using h)
      simp only [List.length_append, List.length_cons, List.length_nil, Nat.zero_add] at this
      rw [this]; simp
theorem flat_set {α : Type} (E : Enc α) (l : List α) (i : Nat) (a : α) (hi : i < l.length) : (l.set i a).flatMap E.cells = setMany (l.flatMap E.cells) (i * E.size) (E.cells a) := by
  have e : l = l.take i ++ l[i] :: l.drop (i + 1) := by simp
  have e2 : l.set i a = l.take i ++ a :: l.drop (i + 1) := by rw [List.set_eq_take_append_cons_drop, if_pos hi]
  have hl : ((l.take i).flatMap E.cells).length = i * E.size := by rw [E.flat_len, List.length_take, Nat.min_eq_left (by omega)]
  rw [e2]
  conv => rhs; rw [e]
  rw [List.flatMap_append, List.flatMap_append, List.flatMap_cons, List.flatMap_cons, ← hl]
  exact (setMany_mid (E.cells a) _ _ _ (by rw [E.len, E.len])).symm
def setRun (w : World) (g off : Nat) : List Value → World
  | [] => w
  | u :: us => setRun (w.setCell ⟨g, off, none⟩ u) g (off + 1) us
theorem setRun_touch (g : Nat) (us : List Value) : ∀ (w : World) (off : Nat), Touch (fun k => k = g) w (setRun w g off us) := by
  induction us with
  | nil => intro w off; exact Touch.refl _ _
  | cons u us ih =>
    intro w off
    have h1 : Touch (fun k => k = g) w (w.setCell ⟨g, off, none⟩ u) := (Touch.refl (fun k => k = g) w).setCell (p := ⟨g, off, none⟩) (.inl rfl) u
    exact h1.trans (ih _ _)
theorem setRun_owns {base : Nat} {e : TypeId} {size g n cap : Nat} (us : List Value) : ∀ (w : World) (off : Nat) (xs : List Value), w.ownsRow base e size (.slice (some ⟨g, 0, none⟩) n cap) n xs → (setRun w g off us).ownsRow base e size (.slice (some ⟨g, 0, none⟩) n cap) n (setMany xs off us) := by
  induction us with
  | nil => intro w off xs h; exact h
  | cons u us ih => intro w off xs h; exact ih _ _ _ (h.stored off u).1
theorem Own.turn {α : Type} {E : Enc α} {w : World} {base : Nat} {e : TypeId} {g n c : Nat} {l : List α} (h : Own E w base e (.slice (some ⟨g, 0, none⟩) n c) l) {i : Nat} (hi : i < l.length) (a : α) : Own E (setRun w g (i * E.size) (E.cells a)) base e (.slice (some ⟨g, 0, none⟩) n c) (l.set i a) := by
  obtain ⟨a', c', e'⟩ := h.slice
  have en : n = l.length := by injection e'
  subst en
  unfold Own at h ⊢
  rw [List.length_set, flat_set E l i a hi]
  exact setRun_owns _ _ _ _ h

/-- The blocks of a heap. -/
def HFoot (h : Nat) (v : Value) (mb : Nat) (k : Nat) : Prop := k = h ∨ v.ownBlock = some k ∨ k = mb

section
variable {w : World} {h : Nat} {v : Value} {mb : Nat} {l : List Thing}
theorem HeapAt.vh (H : HeapAt w h v mb l) : v.ownBlock ≠ some h := H.blk.ne_own H.own (by decide)
theorem HeapAt.vm (H : HeapAt w h v mb l) : v.ownBlock ≠ some mb := by obtain ⟨D, h1, _⟩ := H.map; exact own_ne_map H.own h1
theorem HeapAt.hm (H : HeapAt w h v mb l) : h ≠ mb := by obtain ⟨D, h1, _⟩ := H.map; exact H.blk.ne_map h1
theorem HeapAt.touch {S : Nat → Prop} {w' : World} (H : HeapAt w h v mb l) (t : Touch S w w') (hs : ∀ k, HFoot h v mb k → ¬ S k) : HeapAt w' h v mb l :=
  ⟨H.blk.touch t (hs h (.inl rfl)), H.own.touch t (fun k hk => hs k (.inr (.inl hk))), H.map.touch t (hs mb (.inr (.inr rfl))), H.nodup, H.wf⟩
theorem HeapAt.ext {w' : World} (H : HeapAt w h v mb l) (t : Ext w w') : HeapAt w' h v mb l := H.touch (Touch.of_ext (S := fun _ => False) t) (fun _ _ x => x)
theorem HeapAt.foot_lt (H : HeapAt w h v mb l) {k : Nat} (hk : HFoot h v mb k) : k < w.heap.size := by
  rcases hk with rfl | hk | rfl
  · exact H.blk.lt
  · exact (own_lt H.own hk).2
  · exact H.map.lt
end

theorem swap_pos {l : List Thing} (hn : (ids l).Nodup) {i k : Nat} (hi : i < l.length) (hk : k < l.length) (x : Int) :
    upd (upd (posO (ids l)) (tat l k).1 i) (tat l i).1 k x = posO (ids (swp l i k)) x := by
  have hp := ids_perm (swp_perm hi hk)
  have hn' : (ids (swp l i k)).Nodup := hp.nodup_iff.2 hn
  have inj : ∀ {p q : Nat}, p < l.length → q < l.length → (tat l p).1 = (tat l q).1 → p = q := by
    intro p q h1 h2 e
    have e1 := ids_get h1
    have e2 := ids_get h2
    obtain ⟨_, g1⟩ := List.getElem?_eq_some_iff.1 e1
    obtain ⟨_, g2⟩ := List.getElem?_eq_some_iff.1 e2
    exact (List.getElem_inj (h₀ := by rw [ids_len]; exact h1) (h₁ := by rw [ids_len]; exact h2) hn).1 (by rw [g1, g2, e])
  refine posO_ext hn' (fun j y hj => ?_) (fun y hy => ?_) x
  · have hjl : j < l.length := by
      obtain ⟨h1, _⟩ := List.getElem?_eq_some_iff.1 hj
      rw [ids_len, swp_len] at h1; exact h1
    rw [ids_get (by rw [swp_len]; exact hjl), tat_swp hi hk] at hj
    have hj := Option.some.inj hj
    unfold upd
    by_cases e1 : j = k
    · subst e1
      rw [if_pos rfl] at hj
      rw [if_pos hj.symm]
    · rw [if_neg e1] at hj
      by_cases e2 : j = i
      · subst e2
        rw [if_pos rfl] at hj
        rw [if_neg (by rw [← hj]; exact fun e => e1 (inj hk hi e).symm), if_pos hj.symm]
      · rw [if_neg e2] at hj
        rw [if_neg (by rw [← hj]; exact fun e => e2 (inj hjl hi e)), if_neg (by rw [← hj]; exact fun e => e1 (inj hjl hk e)), ← hj]
        exact posO_at hn (ids_get hjl)
  · have hy' : y ∉ ids l := fun h => hy (hp.mem_iff.2 h)
    have m1 : (tat l k).1 ∈ ids l := List.mem_of_getElem? (ids_get hk)
    have m2 : (tat l i).1 ∈ ids l := List.mem_of_getElem? (ids_get hi)
    unfold upd
    rw [if_neg (by rintro rfl; exact hy' m2), if_neg (by rintro rfl; exact hy' m1)]
    exact posO_none hy'

theorem fits_nat {n : Nat} (h : n ≤ 1000000) : Fits64 .i64 (n : Int) := by
  unfold Fits64
  have hmin : IntKind.i64.min = -9223372036854775808 := rfl
  have hmax : IntKind.i64.max = 9223372036854775807 := rfl
  simp only [Lit.wf, Bool.and_eq_true, decide_eq_true_eq]
  omega
theorem pos_some {l : List Thing} {i : Nat} (hi : i < l.length) : (posO (ids l) (tat l i).1).isSome = true := by
  rw [posO_some]; simpa using List.mem_of_getElem? (ids_get hi)

set_option maxRecDepth 100000 in
set_option maxHeartbeats 4000000 in
theorem swap_any {w : World} {h g c mb : Nat} {l : List Thing} (H : HeapAt w h (.slice (some ⟨g, 0, none⟩) l.length c) mb l) {i k : Nat} (hi : i < l.length) (hk : k < l.length) (hl : l.length ≤ 1000000) : Calls Try.prog 106 #[.pointer (some ⟨h, 0, none⟩), .int .i64 i, .int .i64 k] w fun e w' => e = .returned (.tuple #[]) ∧ HeapAt w' h (.slice (some ⟨g, 0, none⟩) l.length c) mb (swp l i k) ∧ Touch (HFoot h (.slice (some ⟨g, 0, none⟩) l.length c) mb) w w' := by
  obtain ⟨⟨a0, a1, a2, a3, a4⟩, fa0, fa1, fa2, fa3, fa4⟩ := thing_cells H.own hi
  obtain ⟨⟨b0, b1, b2, b3, b4⟩, fb0, fb1, fb2, fb3, fb4⟩ := thing_cells H.own hk
  have c0 : w.cell? ⟨h, 0, none⟩ = some (.slice (some ⟨g, 0, none⟩) l.length c) := H.blk.cell 0
  have c1 : w.cell? ⟨h, 1, none⟩ = some (.map (some mb)) := H.blk.cell 1
  have HH := hide H
  obtain ⟨w1, hw1⟩ : ∃ w1, w1 = setRun (setRun w g (i * 5) (thingE.cells (tat l k))) g (k * 5) (thingE.cells (tat l i)) := ⟨_, rfl⟩
  have HW1 := hide hw1
  have o1 : Own thingE w1 0 160 (.slice (some ⟨g, 0, none⟩) l.length c) (swp l i k) := by
    rw [hw1]
    exact (H.own.turn hi (tat l k)).turn (by simpa using hk) (tat l i)
  have t1 : Touch (fun k => k = g) w w1 := by
    rw [hw1]
    exact (setRun_touch g _ _ _).trans (setRun_touch g _ _ _)
  have gh : ¬ h = g := fun e => H.vh (by rw [e]; rfl)
  have gm : ¬ mb = g := fun e => H.vm (by rw [e]; rfl)
  have b1' := H.blk.touch t1 gh
  have m1' := H.map.touch t1 gm
  have hS : (swp l i k).length = l.length := swp_len _ _ _
  obtain ⟨⟨d0, _⟩, _⟩ := thing_cells o1 (i := i) (by omega)
  obtain ⟨⟨d1, _⟩, _⟩ := thing_cells o1 (i := k) (by omega)
  have dk : (tat (swp l i k) k).1 = (tat l i).1 := by rw [tat_swp hi hk, if_pos rfl]
  have di : (tat (swp l i k) i).1 = (tat l k).1 := by
    rw [tat_swp hi hk]
    by_cases e : i = k
    · rw [if_pos e, e]
    · rw [if_neg e, if_pos rfl]
  rw [di] at d0
  rw [dk] at d1
  obtain ⟨v0, st, w4, w5, r4, _, r5, m5, t5⟩ := m1'.drew.drew.entry KM_ok (x := (tat l k).1) (c := i) (H.wf _ (by rw [tat_lt hk]; exact List.getElem_mem hk)) (fits_nat (by omega)) hl
  have q5 : (if (posO (ids l) (tat l k).1).isSome then l.length else l.length + 1) = l.length := by rw [if_pos (pos_some hk)]
  rw [q5] at m5
  obtain ⟨v0', st', w6, w7, r6, _, r7, m7, t7⟩ := m5.entry KM_ok (x := (tat l i).1) (c := k) (H.wf _ (by rw [tat_lt hi]; exact List.getElem_mem hi)) (fits_nat (by omega)) hl
  have q7 : (if (upd (posO (ids l)) (tat l k).1 i (tat l i).1).isSome then l.length else l.length + 1) = l.length := by
    rw [if_pos]
    unfold upd
    split
    · rfl
    · exact pos_some hi
  rw [q7] at m7
  have M7 := hide (m7.congr (swap_pos H.nodup hi hk))
  have T7 := hide (t1.mono (S' := HFoot h (.slice (some ⟨g, 0, none⟩) l.length c) mb) (fun k _ hk => .inr (.inl (by rw [hk]; rfl))) |>.trans (((Touch.refl _ w1).drew.drew.trans (t5.mono (fun k _ hk => .inr (.inr hk)))).trans (t7.mono (fun k _ hk => .inr (.inr hk)))))
  have t17 : Touch (fun k => k = mb) w1 w7 := ((Touch.refl _ w1).drew.drew.trans t5).trans t7
  have F7 := hide (show HeapAt w7 h (.slice (some ⟨g, 0, none⟩) l.length c) mb (swp l i k) from ⟨b1'.touch t17 H.hm, o1.touch t17 (fun k hk => by simp only [Value.ownBlock, Option.some.injEq] at hk; subst hk; exact fun e => gm e.symm), by rw [hS]; exact M7.out, (ids_perm (swp_perm hi hk)).nodup_iff.2 H.nodup, fun t ht => H.wf t ((swp_perm hi hk).mem_iff.1 ht)⟩)
  have e0 : w1.cell? ⟨h, 0, none⟩ = some (.slice (some ⟨g, 0, none⟩) l.length c) := b1'.cell 0
  have e1 : w1.cell? ⟨h, 1, none⟩ = some (.map (some mb)) := b1'.cell 1
  clear o1 t1 gh gm b1' m1' hS dk di m5 t5 q5 m7 t7 q7 M7 t17 hw1
  simp only [KM] at r4 r5 r6 r7
  have KE := hide (show _ ∧ _ ∧ _ ∧ _ ∧ _ ∧ _ ∧ _ ∧ _ from ⟨d0, d1, r4, r5, r6, r7, e0, e1⟩)
  clear d0 d1 r4 r5 r6 r7 e0 e1
  obtain ⟨n, hn⟩ : ∃ n, l.length = n := ⟨_, rfl⟩
  rw [hn] at c0 hi hk F7 T7 KE ⊢
  have HN := hide hn
  generalize tat l i = A at *
  generalize tat l k = B at *
  obtain ⟨A0, ⟨A1, A2⟩, A3, A4⟩ := A
  obtain ⟨B0, ⟨B1, B2⟩, B3, B4⟩ := B
  simp only at a0 a1 a2 a3 a4 b0 b1 b2 b3 b4
  have hi' : (i : Int) < (n : Int) := by omega
  have hk' : (k : Int) < (n : Int) := by omega
  have far : ∀ (w : World) (p q : Nat) (u : Value), p ≠ q → (w.setCell ⟨g, p, none⟩ u).cell? ⟨g, q, none⟩ = w.cell? ⟨g, q, none⟩ := fun w p q u hpq => World.cell?_setCell_other _ _ _ _ (by intro x; injection x; omega)
  have two : ∀ (w : World) (p q : Nat) (u : Value), w.cell? ⟨g, q, none⟩ = some u → (w.setCell ⟨g, p, none⟩ u).cell? ⟨g, q, none⟩ = some u := by
    intro w p q u hu
    by_cases e : p = q
    · subst e; exact World.cell?_setCell_same _ _ _ hu
    · rw [far _ _ _ _ e]; exact hu
  have t0 : (w.setCell ⟨g, i * 5, none⟩ (.int .i64 B0)).cell? ⟨g, k * 5, none⟩ = some (.int .i64 B0) := two _ _ _ _ (by  exact b0)
  have t1 : ((w.setCell ⟨g, i * 5, none⟩ (.int .i64 B0)).setCell ⟨g, i * 5 + 1, none⟩ (.int .u64 B1)).cell? ⟨g, k * 5 + 1, none⟩ = some (.int .u64 B1) := two _ _ _ _ (by rw [far _ _ _ _ (by omega)]; exact b1)
  have t2 : (((w.setCell ⟨g, i * 5, none⟩ (.int .i64 B0)).setCell ⟨g, i * 5 + 1, none⟩ (.int .u64 B1)).setCell ⟨g, i * 5 + 2, none⟩ (.int .u64 B2)).cell? ⟨g, k * 5 + 2, none⟩ = some (.int .u64 B2) := two _ _ _ _ (by rw [far _ _ _ _ (by omega)]; rw [far _ _ _ _ (by omega)]; exact b2)
  have t3 : ((((w.setCell ⟨g, i * 5, none⟩ (.int .i64 B0)).setCell ⟨g, i * 5 + 1, none⟩ (.int .u64 B1)).setCell ⟨g, i * 5 + 2, none⟩ (.int .u64 B2)).setCell ⟨g, i * 5 + 3, none⟩ (.int .i64 B3)).cell? ⟨g, k * 5 + 3, none⟩ = some (.int .i64 B3) := two _ _ _ _ (by rw [far _ _ _ _ (by omega)]; rw [far _ _ _ _ (by omega)]; rw [far _ _ _ _ (by omega)]; exact b3)
  have t4 : (((((w.setCell ⟨g, i * 5, none⟩ (.int .i64 B0)).setCell ⟨g, i * 5 + 1, none⟩ (.int .u64 B1)).setCell ⟨g, i * 5 + 2, none⟩ (.int .u64 B2)).setCell ⟨g, i * 5 + 3, none⟩ (.int .i64 B3)).setCell ⟨g, i * 5 + 4, none⟩ (.int .i64 B4)).cell? ⟨g, k * 5 + 4, none⟩ = some (.int .i64 B4) := two _ _ _ _ (by rw [far _ _ _ _ (by omega)]; rw [far _ _ _ _ (by omega)]; rw [far _ _ _ _ (by omega)]; rw [far _ _ _ _ (by omega)]; exact b4)
  clear far two
  clear H hn
  go_enter Try.func106, Try.ntmps106
  go_wp2
  go_region
  clear t0 t1 t2 t3 t4 a0 a1 a2 a3 a4 b0 b1 b2 b3 b4 fa0 fa1 fa2 fa3 fa4 fb0 fb1 fb2 fb3 fb4 c0 c1
  rw [show (((((((((w.setCell ⟨g, i * 5, none⟩ (.int .i64 B0)).setCell ⟨g, i * 5 + 1, none⟩ (.int .u64 B1)).setCell ⟨g, i * 5 + 2, none⟩ (.int .u64 B2)).setCell ⟨g, i * 5 + 3, none⟩ (.int .i64 B3)).setCell ⟨g, i * 5 + 4, none⟩ (.int .i64 B4)).setCell ⟨g, k * 5, none⟩ (.int .i64 A0)).setCell ⟨g, k * 5 + 1, none⟩ (.int .u64 A1)).setCell ⟨g, k * 5 + 2, none⟩ (.int .u64 A2)).setCell ⟨g, k * 5 + 3, none⟩ (.int .i64 A3)).setCell ⟨g, k * 5 + 4, none⟩ (.int .i64 A4) = w1 from HW1.out.symm]
  obtain ⟨d0, d1, r4, r5, r6, r7, e0, e1⟩ := KE.out
  try simp only at d0
  try simp only at d1
  try simp only at r4
  try simp only at r6
  clear KE HW1
  go_wp2
  go_region
  go_end0
  exact ⟨rfl, F7.out, T7.out⟩
end Go.Proofs.Ytkonojjillcfiaa

/- Walks of the heap's rise and sink. -/
namespace Go.Proofs.Ytkonojjillcfiaa
open Go.RowKit

/-- What a heap became. -/
def Heaped (w : World) (h : Nat) (v : Value) (mb : Nat) (l : List Thing) (w' : World) : Prop :=
  ∃ l', HeapAt w' h v mb l' ∧ Touch (HFoot h v mb) w w' ∧ l'.Perm l ∧ HeapOk l'

theorem ahead_at (a b : Thing) (w : World) : Calls Try.prog 112 #[.agg #[.int .i64 a.1, .int .u64 a.2.1.1, .int .u64 a.2.1.2, .int .i64 a.2.2.1, .int .i64 a.2.2.2], .agg #[.int .i64 b.1, .int .u64 b.2.1.1, .int .u64 b.2.1.2, .int .i64 b.2.2.1, .int .i64 b.2.2.2]] w fun e w' => e = .returned (.bool (aheadB a b)) ∧ Ext w w' := ahead_any a b w

theorem par_q {k : Nat} (h : 0 < k) (hk : k ≤ 1000000) : IntKind.i64.wrap (((k : Int) - 1).tdiv 2) = ((par k : Nat) : Int) := by
  rw [tdiv_in (by omega) (by omega) (by omega)]
  unfold par
  omega

set_option maxRecDepth 100000 in
set_option maxHeartbeats 4000000 in
theorem hRise_any {w : World} {h mb i : Nat} {v : Value} {l : List Thing} (H : HeapAt w h v mb l) (hi : i < l.length) (hl : l.length ≤ 1000000) (hr : RiseOk l i) :
    Calls Try.prog 103 #[.pointer (some ⟨h, 0, none⟩), .int .i64 i] w fun e w' => e = .returned (.tuple #[]) ∧ Heaped w h v mb l w' := by
  obtain ⟨g, c, rfl, _, _⟩ : ∃ g c, v = .slice (some ⟨g, 0, none⟩) l.length c ∧ 0 ≤ g ∧ g < w.heap.size := by
    rcases H.own.2 with ⟨_, hn⟩ | ⟨g, cap, cur, hv, hb, hg, _⟩
    · omega
    · exact ⟨g, cap, hv, hb, lt_of_block hg⟩
  obtain ⟨n, hn⟩ : ∃ n, l.length = n := ⟨_, rfl⟩
  rw [hn] at H hl ⊢
  have HH := hide H
  have HR := hide hr
  have HN := hide hn
  have HI := hide hi
  clear H hr hn hi
  go_enter Try.func103, Try.ntmps103
  go_wp2
  go_loopw [1] (fun i wr => ∃ (k : Nat) (m : List Thing), i = .int .i64 k ∧ k < n ∧ m.Perm l ∧ RiseOk m k ∧ HeapAt wr h (.slice (some ⟨g, 0, none⟩) n c) mb m ∧ Touch (HFoot h (.slice (some ⟨g, 0, none⟩) n c) mb) w wr) (fun i _ => (intOf i).toNat)
  case atStart => exact ⟨i, l, rfl, by have := HI.out; have := HN.out; omega, List.Perm.refl _, HR.out, HH.out, Touch.refl _ _⟩
  case round =>
    obtain ⟨k, m, rfl, hk, hp, hro, hat, ht⟩ := hrel
    have hm : m.length = n := by rw [hp.length_eq, HN.out]
    have A := hide hat
    have P := hide hp
    have R := hide hro
    have T := hide ht
    have HM := hide hm
    have c0 : wr.cell? ⟨h, 0, none⟩ = some (.slice (some ⟨g, 0, none⟩) n c) := hat.blk.cell 0
    have zh := hat.blk.lt
    have hkm : k < m.length := by omega
    obtain ⟨⟨a0, a1, a2, a3, a4⟩, _⟩ := thing_cells hat.own hkm
    by_cases h0 : k = 0
    · subst h0
      have hd : decide ((0 : Int) < ((0 : Nat) : Int)) = false := by simp
      clear hat hp hro ht hm hkm a0 a1 a2 a3 a4
      go_wp2_with fail
      go_quiet (fail)
      go_wp2
      go_end0
      exact ⟨rfl, m, A.out.ext (by (with_reducible (repeat' (first | exact Ext.refl _ | assumption | refine Ext.drew ?_ | refine Ext.drewN ?_ _ | refine Ext.alloc ?_ _ | refine Ext.setCell ?_ ?_ _ | refine Ext.trans ?_ (by assumption)))); all_goals (first | (simp; done) | (simp; omega))), T.out.trans (Touch.of_ext (by (with_reducible (repeat' (first | exact Ext.refl _ | assumption | refine Ext.drew ?_ | refine Ext.drewN ?_ _ | refine Ext.alloc ?_ _ | refine Ext.setCell ?_ ?_ _ | refine Ext.trans ?_ (by assumption)))); all_goals (first | (simp; done) | (simp; omega)))), P.out, rise_end R.out (.inl rfl)⟩
    · have hpos : (0 : Int) < (k : Int) := by omega
      have hw1 : IntKind.i64.wrap ((k : Int) - 1) = (k : Int) - 1 := IntWalk.i64_in _ (by omega)
      have hd2 : decide (0 < k) = true := by simp; omega
      have hq := par_q (k := k) (by omega) (by omega)
      have hpl : par k < k := par_lt (by omega)
      obtain ⟨⟨b0, b1, b2, b3, b4⟩, _⟩ := thing_cells hat.own (i := par k) (by omega)
      have hk' : (k : Int) < (n : Int) := by omega
      have hpn : ((par k : Nat) : Int) < (n : Int) := by omega
      have hp0 : (0 : Int) ≤ ((par k : Nat) : Int) := by omega
      have HA := hide (fun w => ahead_at (tat m k) (tat m (par k)) w)
      have hsw := hide (fun (w' : World) (X : HeapAt w' h (.slice (some ⟨g, 0, none⟩) n c) mb m) => swap_any (w := w') (g := g) (c := c) (l := m) (by rw [HM.out]; exact X) (i := k) (k := par k) hkm (by omega) (by omega))
      rw [HM.out] at hsw
      have hg : g < wr.heap.size := A.out.foot_lt (.inr (.inl rfl))
      have H0 := hide h0
      clear hat hp hro ht hm hkm h0
      cases hah : aheadB (tat m k) (tat m (par k))
      · rw [hah] at HA
        have HF := hide hah
        clear hah
        obtain ⟨tk, htk⟩ : ∃ tk, tat m k = tk := ⟨_, rfl⟩
        obtain ⟨tp, htp⟩ : ∃ tp, tat m (par k) = tp := ⟨_, rfl⟩
        rw [htk] at a0 a1 a2 a3 a4 HA
        rw [htp] at b0 b1 b2 b3 b4 HA
        clear htk htp
        go_wp2_with fail
        go_region_held3 (fun W => (∀ b o, b < wr.heap.size → W.cell? ⟨b, o, none⟩ = wr.cell? ⟨b, o, none⟩) ∧ Ext wr W) (first | with_reducible exact pr_start _ | exact pr_of (by (with_reducible (repeat' (first | exact Ext.refl _ | assumption | refine Ext.drew ?_ | refine Ext.drewN ?_ _ | refine Ext.alloc ?_ _ | refine Ext.setCell ?_ ?_ _ | refine Ext.trans ?_ (by assumption)))); all_goals (first | (simp; done) | (simp; omega))))
          (first | (go_at_call 112; refine (HA.out _).mono ?_; rintro e w3 ⟨rfl, hb3⟩))
        rename_i hS
        have hx3 : Ext wr w3 := hS.2
        clear hS
        go_wp2
        go_end0
        exact ⟨rfl, m, A.out.ext hx3, T.out.trans (Touch.of_ext hx3), P.out, rise_end R.out (.inr HF.out)⟩
      · rw [hah] at HA
        have HF := hide hah
        clear hah
        obtain ⟨tk, htk⟩ : ∃ tk, tat m k = tk := ⟨_, rfl⟩
        obtain ⟨tp, htp⟩ : ∃ tp, tat m (par k) = tp := ⟨_, rfl⟩
        rw [htk] at a0 a1 a2 a3 a4 HA
        rw [htp] at b0 b1 b2 b3 b4 HA
        clear htk htp
        go_wp2_with fail
        go_region_held3 (fun W => (∀ b o, b < wr.heap.size → W.cell? ⟨b, o, none⟩ = wr.cell? ⟨b, o, none⟩) ∧ Ext wr W) (first | with_reducible exact pr_start _ | exact pr_of (by (with_reducible (repeat' (first | exact Ext.refl _ | assumption | refine Ext.drew ?_ | refine Ext.drewN ?_ _ | refine Ext.alloc ?_ _ | refine Ext.setCell ?_ ?_ _ | refine Ext.trans ?_ (by assumption)))); all_goals (first | (simp; done) | (simp; omega))))
          (first | (go_at_call 112; refine (HA.out _).mono ?_; rintro e w3 ⟨rfl, hb3⟩))
        rename_i hS
        have hx3 : Ext wr w3 := hS.2
        clear hS a0 a1 a2 a3 a4 b0 b1 b2 b3 b4 c0
        go_wp2_with (go_at_call 106; refine (hsw.out _ (A.out.ext hx3)).mono ?_; rintro e w4 ⟨rfl, A4, t4⟩; have A4 := hide A4; have T4 := hide t4; clear t4)
        go_roundw
        case rel => exact ⟨par k, swp m k (par k), rfl, by omega, (swp_perm (by have := HM.out; omega) (by have := HM.out; omega)).trans P.out, rise_step R.out (by omega) (by have := HM.out; omega) HF.out, A4.out, T.out.trans ((Touch.of_ext hx3).trans T4.out)⟩
        case measure => simp [intOf]; omega

/-- In sink's inner loop: the least of a thing and of those children that were looked at. -/
def Least (m : List Thing) (n k f q : Nat) : Prop :=
  (f = k ∨ par f = k ∧ 0 < f ∧ f < n) ∧ ∀ j, (j = k ∨ 2 * k + 1 ≤ j ∧ j < q) → j < n → Le (tat m f) (tat m j)
theorem least_start (m : List Thing) (n k : Nat) : Least m n k k (2 * k + 1) := ⟨.inl rfl, fun j hj _ => by
  rcases hj with rfl | hj
  · exact Le.refl _
  · omega⟩
theorem least_keep {m : List Thing} {n k f q : Nat} (h : Least m n k f q) (ha : aheadB (tat m q) (tat m f) = false) : Least m n k f (q + 1) := by
  refine ⟨h.1, fun j hj hjn => ?_⟩
  by_cases e : j = q
  · subst e; exact ha
  · exact h.2 j (by omega) hjn
theorem least_turn {m : List Thing} {n k f q : Nat} (h : Least m n k f q) (h1 : 2 * k + 1 ≤ q) (h2 : q ≤ 2 * k + 2) (hq : q < n) (ha : aheadB (tat m q) (tat m f) = true) : Least m n k q (q + 1) := by
  refine ⟨.inr ⟨by unfold par; omega, by omega, hq⟩, fun j hj hjn => ?_⟩
  by_cases e : j = q
  · subst e; exact Le.refl _
  · exact (le_of_ahead ha).trans (h.2 j (by omega) hjn)
theorem least_end {m : List Thing} {k q : Nat} (h : Least m m.length k k q) (hs : SinkOk m k) (hq : q = 2 * k + 3 ∨ m.length ≤ q) : HeapOk m :=
  sink_end hs fun j j0 hj hp => h.2 j (by unfold par at hp; omega) hj
theorem least_go {m : List Thing} {k f q : Nat} (h : Least m m.length k f q) (hs : SinkOk m k) (hk : k < m.length) (hf : f ≠ k) (hq : q = 2 * k + 3 ∨ m.length ≤ q) : SinkOk (swp m k f) f := by
  rcases h.1 with h1 | ⟨h1, h2, h3⟩
  · exact absurd h1 hf
  · exact sink_step hs hk h3 h2 h1 (h.2 k (.inl rfl) hk) fun j j0 hj hp => h.2 j (by unfold par at hp; omega) hj

end Go.Proofs.Ytkonojjillcfiaa

/- Walk of the heap's sink. -/
namespace Go.Proofs.Ytkonojjillcfiaa
open Go.RowKit

set_option maxRecDepth 100000 in
set_option maxHeartbeats 2000000 in
theorem hSink_any {w : World} {h mb : Nat} {v : Value} {l : List Thing} (H : HeapAt w h v mb l) (hl : l.length ≤ 1000000) (hr : SinkOk l 0) :
    Calls Try.prog 107 #[.pointer (some ⟨h, 0, none⟩), .int .i64 0] w fun e w' => e = .returned (.tuple #[]) ∧ Heaped w h v mb l w' := by
  obtain ⟨a, c, rfl⟩ := H.own.slice
  obtain ⟨n, hn⟩ : ∃ n, l.length = n := ⟨_, rfl⟩
  rw [hn] at H hl ⊢
  have HH := hide H
  have HR := hide hr
  have HN := hide hn
  clear H hr hn
  go_enter Try.func107, Try.ntmps107
  go_wp2
  apply wp_scope_straight
  go_wp2
  apply wp_label
  go_wp2
  go_loopw [1] (fun i wr => ∃ (k : Nat) (m : List Thing), i = .int .i64 k ∧ (k < n ∨ n = 0 ∧ k = 0) ∧ m.Perm l ∧ SinkOk m k ∧ HeapAt wr h (.slice a n c) mb m ∧ Touch (HFoot h (.slice a n c) mb) w wr) (fun i _ => n - (intOf i).toNat)
  case atStart => exact ⟨0, l, rfl, by omega, List.Perm.refl _, HR.out, HH.out, Touch.refl _ _⟩
  case round =>
    obtain ⟨k, m, rfl, hk, hp, hro, hat, ht⟩ := hrel
    have hm : m.length = n := by rw [hp.length_eq, HN.out]
    have A := hide hat
    have P := hide hp
    have R := hide hro
    have T := hide ht
    have HM := hide hm
    have zh := hat.blk.lt
    have hkb : k ≤ 1000000 := by omega
    clear hat hp hro ht hm
    go_wp2
    go_loopw [4, 5] (fun fs qs wl => ∃ f q : Nat, fs = .int .i64 f ∧ qs = .int .i64 q ∧ 2 * k + 1 ≤ q ∧ q ≤ 2 * k + 3 ∧ Least m n k f q ∧ Ext wr wl) (fun _ q _ => 2 * k + 3 - (intOf q).toNat)
    case atStart => exact ⟨k, 2 * k + 1, rfl, by go_num, by omega, by omega, least_start m n k, Ext.refl _⟩
    case round =>
      obtain ⟨f, q, rfl, rfl, hq1, hq2, hle, hx⟩ := hrel
      have HX := hide hx
      have LE := hide hle
      have A2 := hide (A.out.ext hx)
      have zr := hx.size
      have c0 : wr.cell? ⟨h, 0, none⟩ = some (.slice a n c) := A2.out.blk.cell 0
      have zh2 : h < wr.heap.size := by omega
      have hf2 : f ≤ 1000000 := by rcases hle.1 with h1 | ⟨_, _, h1⟩ <;> omega
      have hfn : q < n → f < n := by intro h0; rcases hle.1 with h1 | ⟨_, _, h1⟩ <;> omega
      clear hx hle
      by_cases hin : q ≤ 2 * k + 2 ∧ q < n
      · obtain ⟨i1, i2⟩ := hin
        have hfn := hfn i2
        obtain ⟨g, rfl⟩ : ∃ g, a = some ⟨g, 0, none⟩ := by
          rcases A2.out.own.2 with ⟨_, hn⟩ | ⟨g, cap, cur, hv, _⟩
          · have := HM.out; omega
          · exact ⟨g, by injection hv⟩
        obtain ⟨⟨a0, a1, a2, a3, a4⟩, _⟩ := thing_cells A2.out.own (i := q) (by have := HM.out; omega)
        obtain ⟨⟨b0, b1, b2, b3, b4⟩, _⟩ := thing_cells A2.out.own (i := f) (by have := HM.out; omega)
        have hg : g < wr.heap.size := A2.out.foot_lt (.inr (.inl rfl))
        have HA := hide (fun w => ahead_at (tat m q) (tat m f) w)
        obtain ⟨tq, htq⟩ : ∃ t, tat m q = t := ⟨_, rfl⟩
        obtain ⟨tf, htf⟩ : ∃ t, tat m f = t := ⟨_, rfl⟩
        have HTQ := hide htq
        have HTF := hide htf
        rw [htq] at a0 a1 a2 a3 a4 HA
        rw [htf] at b0 b1 b2 b3 b4 HA
        clear htq htf
        have j1 : (q : Int) ≤ 2 * (k : Int) + 2 := by omega
        have j2 : (q : Int) < (n : Int) := by omega
        have j3 : (f : Int) < (n : Int) := by omega
        cases hah : aheadB tq tf
        · rw [hah] at HA
          have HF := hide hah
          clear hah
          go_wp2_with fail
          go_region_held3 (fun W => (∀ b o, b < wr.heap.size → W.cell? ⟨b, o, none⟩ = wr.cell? ⟨b, o, none⟩) ∧ Ext wr W) (first | with_reducible exact pr_start _ | exact pr_of (by (with_reducible (repeat' (first | exact Ext.refl _ | assumption | refine Ext.drew ?_ | refine Ext.drewN ?_ _ | refine Ext.alloc ?_ _ | refine Ext.setCell ?_ ?_ _ | refine Ext.trans ?_ (by assumption)))); all_goals (first | (simp; done) | (simp; omega))))
            (first | (go_at_call 112; refine (HA.out _).mono ?_; rintro e w3 ⟨rfl, hb3⟩))
          rename_i hS
          have hx3 : Ext wr w3 := hS.2
          clear hS
          go_wp2
          go_roundw
          case rel => exact ⟨f, q + 1, rfl, by go_num, by omega, by omega, least_keep LE.out (by rw [HTQ.out, HTF.out]; exact HF.out), HX.out.trans hx3⟩
          case measure => simp [intOf]; omega
        · rw [hah] at HA
          have HF := hide hah
          clear hah
          go_wp2_with fail
          go_region_held3 (fun W => (∀ b o, b < wr.heap.size → W.cell? ⟨b, o, none⟩ = wr.cell? ⟨b, o, none⟩) ∧ Ext wr W) (first | with_reducible exact pr_start _ | exact pr_of (by (with_reducible (repeat' (first | exact Ext.refl _ | assumption | refine Ext.drew ?_ | refine Ext.drewN ?_ _ | refine Ext.alloc ?_ _ | refine Ext.setCell ?_ ?_ _ | refine Ext.trans ?_ (by assumption)))); all_goals (first | (simp; done) | (simp; omega))))
            (first | (go_at_call 112; refine (HA.out _).mono ?_; rintro e w3 ⟨rfl, hb3⟩))
          rename_i hS
          have hx3 : Ext wr w3 := hS.2
          clear hS
          go_wp2
          go_roundw
          case rel => exact ⟨q, q + 1, rfl, by go_num, by omega, by omega, least_turn LE.out hq1 i1 i2 (by rw [HTQ.out, HTF.out]; exact HF.out), HX.out.trans hx3⟩
          case measure => simp [intOf]; omega
      · have hex : q = 2 * k + 3 ∨ q ≤ 2 * k + 2 ∧ n ≤ q := by omega
        have HE := hide (show q = 2 * k + 3 ∨ m.length ≤ q by have := HM.out; omega)
        clear hin hfn
        rcases hex with e | ⟨e1, e2⟩
        · have g1 : decide ((q : Int) ≤ 2 * (k : Int) + 2) = false := by simp; omega
          clear e
          by_cases hf : f = k
          · subst hf
            go_wp2
            (first | rw [Exit.noGoto_normal] | rw [Exit.noGoto_exit])
            go_end0
            exact ⟨rfl, m, A2.out, T.out.trans (Touch.of_ext HX.out), P.out, least_end (by rw [HM.out]; exact LE.out) R.out HE.out⟩
          · have hfc : f < m.length ∧ k < m.length := by have := HM.out; rcases LE.out.1 with h1 | ⟨_, _, h1⟩ <;> omega
            have hne : ((f : Int) == (k : Int)) = false := by simp; omega
            have hpf : k < f := by
              rcases LE.out.1 with h1 | ⟨h1, h2, _⟩
              · exact absurd h1 hf
              · have := par_lt h2; omega
            have hsw := hide (fun (w' : World) (g : Nat) (X : HeapAt w' h (.slice (some ⟨g, 0, none⟩) n c) mb m) => swap_any (w := w') (g := g) (c := c) (l := m) (by rw [HM.out]; exact X) (i := k) (k := f) hfc.2 hfc.1 (by have := HM.out; omega))
            rw [HM.out] at hsw
            obtain ⟨g, rfl⟩ : ∃ g, a = some ⟨g, 0, none⟩ := by
              rcases A2.out.own.2 with ⟨_, hn⟩ | ⟨g, cap, cur, hv, _⟩
              · omega
              · exact ⟨g, by injection hv⟩
            have HFN := hide hf
            clear hf
            go_wp2_with (go_at_call 106; refine (hsw.out _ _ A2.out).mono ?_; rintro e w4 ⟨rfl, A4, t4⟩; have A4 := hide A4; have T4 := hide t4; clear t4)
            go_roundw
            case rel => exact ⟨f, swp m k f, rfl, by have := HM.out; omega, (swp_perm hfc.2 hfc.1).trans P.out, least_go (by rw [HM.out]; exact LE.out) R.out hfc.2 HFN.out HE.out, A4.out, T.out.trans ((Touch.of_ext HX.out).trans T4.out)⟩
            case measure => have := HM.out; simp [intOf]; omega
        · have g1 : (q : Int) ≤ 2 * (k : Int) + 2 := by omega
          have g2 : decide ((q : Int) < (n : Int)) = false := by simp; omega
          have g3 : decide (q < n) = false := by simp; omega
          clear e2
          by_cases hf : f = k
          · subst hf
            go_wp2
            (first | rw [Exit.noGoto_normal] | rw [Exit.noGoto_exit])
            go_end0
            exact ⟨rfl, m, A2.out, T.out.trans (Touch.of_ext HX.out), P.out, least_end (by rw [HM.out]; exact LE.out) R.out HE.out⟩
          · have hfc : f < m.length ∧ k < m.length := by have := HM.out; rcases LE.out.1 with h1 | ⟨_, _, h1⟩ <;> omega
            have hne : ((f : Int) == (k : Int)) = false := by simp; omega
            have hpf : k < f := by
              rcases LE.out.1 with h1 | ⟨h1, h2, _⟩
              · exact absurd h1 hf
              · have := par_lt h2; omega
            have hsw := hide (fun (w' : World) (g : Nat) (X : HeapAt w' h (.slice (some ⟨g, 0, none⟩) n c) mb m) => swap_any (w := w') (g := g) (c := c) (l := m) (by rw [HM.out]; exact X) (i := k) (k := f) hfc.2 hfc.1 (by have := HM.out; omega))
            rw [HM.out] at hsw
            obtain ⟨g, rfl⟩ : ∃ g, a = some ⟨g, 0, none⟩ := by
              rcases A2.out.own.2 with ⟨_, hn⟩ | ⟨g, cap, cur, hv, _⟩
              · omega
              · exact ⟨g, by injection hv⟩
            have HFN := hide hf
            clear hf
            go_wp2_with (go_at_call 106; refine (hsw.out _ _ A2.out).mono ?_; rintro e w4 ⟨rfl, A4, t4⟩; have A4 := hide A4; have T4 := hide t4; clear t4)
            go_roundw
            case rel => exact ⟨f, swp m k f, rfl, by have := HM.out; omega, (swp_perm hfc.2 hfc.1).trans P.out, least_go (by rw [HM.out]; exact LE.out) R.out hfc.2 HFN.out HE.out, A4.out, T.out.trans ((Touch.of_ext HX.out).trans T4.out)⟩
            case measure => have := HM.out; simp [intOf]; omega
end Go.Proofs.Ytkonojjillcfiaa

/- append to a row of the call's own, as one step of a region that draws its order. -/
namespace Go.Proofs.Ytkonojjillcfiaa
open Go.RowKit

theorem step_app {α : Type} (E : Enc α) {P : Program} {t e : TypeId} {z : Value} {bytes : Nat} (T : ElemT P t e z E.size bytes) {ops : Array Oper} {o : Oper} {a : Act} {K : Act → World → Prop} {Q : Exit → Act → World → Prop} {F : Prop}
    (hgd : o.guard = none) (s x : Operand) (ho : o.op = .call { callee := .builtin .append, args := #[s, x], argTypes := #[t, t] })
    (base : Nat) (w : World) (v : Value) (l : List α) (hs : a.eval s = v) (hown : Own E w base e v l)
    (y : α) (cs : Array Value) (e' : TypeId) (hcs : cs = (E.cells y).toArray) (b : Nat) (hb : b = w.heap.size) (hx : a.eval x = .slice (some ⟨b, 0, none⟩) 1 1)
    (hlen : (l.length + 1) * bytes ≤ 140737488355328) (hl : l.length ≤ 1000000000) (hbase : base ≤ w.heap.size)
    (h : ∀ g c w', Own E w' base e (.slice (some ⟨g, 0, none⟩) (l.length + 1) c) (l ++ [y]) → Below base w w' → K (a.put o.dst (.slice (some ⟨g, 0, none⟩) (l.length + 1) c)) w') :
    if Region.wanted o (yielded ops a.tmps) = true then Oper.wp P o a (w.alloc (.cells cs e')) K Q else F := by
  subst hb
  obtain ⟨i0, hi, hz0, hz1, hz2⟩ := info_parts T.info
  have hnews := cells_new w cs e'
  subst hcs
  refine step_append_lies _ hgd s x t ho base e i0 z E.size bytes T.under hi hz0 hz1 hz2 T.zs T.pos v l.length (l.flatMap E.cells) hs (World.ownsRow.alloc hown _) ⟨w.heap.size, 0, none⟩ 1 1 (E.cells y) hx (by simp [E.len]) (by simpa using hnews) (E.one y) (by omega) (by unfold maxLen; omega) hlen (by simp; omega) _ rfl ?_
  intro g c w' hown' hg _ _
  have hown'' : Own E w' base e (.slice (some ⟨g, 0, none⟩) (l.length + 1) c) (l ++ [y]) := by unfold Own; simpa using hown'
  refine h g c w' hown'' ?_
  refine (((Below.refl base w).alloc hbase _).grown hg (by simp; omega) ?_)
  intro k hk
  exact (World.ownsRow.lt hown k hk).1
end Go.Proofs.Ytkonojjillcfiaa

/- append to a row of the call's own as one step of a region that draws its order: where the new row lies, and what was written. -/
namespace Go.Proofs.Ytkonojjillcfiaa
open Go.RowKit

theorem step_app_at {α : Type} (E : Enc α) {P : Program} {t e : TypeId} {z : Value} {bytes : Nat} (T : ElemT P t e z E.size bytes) {ops : Array Oper} {o : Oper} {a : Act} {K : Act → World → Prop} {Q : Exit → Act → World → Prop} {F : Prop}
    (hgd : o.guard = none) (s x : Operand) (ho : o.op = .call { callee := .builtin .append, args := #[s, x], argTypes := #[t, t] })
    (base : Nat) (w : World) (v : Value) (l : List α) (hs : a.eval s = v) (hown : Own E w base e v l)
    (y : α) (cs : Array Value) (e' : TypeId) (hcs : cs = (E.cells y).toArray) (b : Nat) (hb : b = w.heap.size) (hx : a.eval x = .slice (some ⟨b, 0, none⟩) 1 1)
    (hlen : (l.length + 1) * bytes ≤ 140737488355328) (hl : l.length ≤ 1000000000) (hbase : base ≤ w.heap.size)
    (h : ∀ g c w', Own E w' base e (.slice (some ⟨g, 0, none⟩) (l.length + 1) c) (l ++ [y]) → Touch (fun k => v.ownBlock = some k) w w' → (v.ownBlock = some g ∨ w.heap.size ≤ g) → K (a.put o.dst (.slice (some ⟨g, 0, none⟩) (l.length + 1) c)) w') :
    if Region.wanted o (yielded ops a.tmps) = true then Oper.wp P o a (w.alloc (.cells cs e')) K Q else F := by
  subst hb
  obtain ⟨i0, hi, hz0, hz1, hz2⟩ := info_parts T.info
  have hnews := cells_new w cs e'
  subst hcs
  refine step_append_lies _ hgd s x t ho base e i0 z E.size bytes T.under hi hz0 hz1 hz2 T.zs T.pos v l.length (l.flatMap E.cells) hs (World.ownsRow.alloc hown _) ⟨w.heap.size, 0, none⟩ 1 1 (E.cells y) hx (by simp [E.len]) (by simpa using hnews) (E.one y) (by omega) (by unfold maxLen; omega) hlen (by simp; omega) _ rfl ?_
  intro g c w' hown' hg hloc _
  have hown'' : Own E w' base e (.slice (some ⟨g, 0, none⟩) (l.length + 1) c) (l ++ [y]) := by unfold Own; simpa using hown'
  refine h g c w' hown'' (((Touch.refl _ w).alloc _).grown hg (fun k hk => .inl hk)) ?_
  simp only [World.size_alloc] at hloc
  rcases hloc with hloc | hloc
  · exact .inl hloc
  · exact .inr (by omega)

/-- The same, behind a draw. -/
theorem step_app_drew {α : Type} (E : Enc α) {P : Program} {t e : TypeId} {z : Value} {bytes : Nat} (T : ElemT P t e z E.size bytes) {ops : Array Oper} {o : Oper} {a : Act} {K : Act → World → Prop} {Q : Exit → Act → World → Prop} {F : Prop}
    (hgd : o.guard = none) (s x : Operand) (ho : o.op = .call { callee := .builtin .append, args := #[s, x], argTypes := #[t, t] })
    (base : Nat) (w : World) (v : Value) (l : List α) (hs : a.eval s = v) (hown : Own E w base e v l)
    (y : α) (cs : Array Value) (e' : TypeId) (hcs : cs = (E.cells y).toArray) (b : Nat) (hb : b = w.heap.size) (hx : a.eval x = .slice (some ⟨b, 0, none⟩) 1 1)
    (hlen : (l.length + 1) * bytes ≤ 140737488355328) (hl : l.length ≤ 1000000000) (hbase : base ≤ w.heap.size)
    (h : ∀ g c w', Own E w' base e (.slice (some ⟨g, 0, none⟩) (l.length + 1) c) (l ++ [y]) → Touch (fun k => v.ownBlock = some k) w w' → (v.ownBlock = some g ∨ w.heap.size ≤ g) → K (a.put o.dst (.slice (some ⟨g, 0, none⟩) (l.length + 1) c)) w') :
    if Region.wanted o (yielded ops a.tmps) = true then Oper.wp P o a (w.alloc (.cells cs e')).drew K Q else F :=
  step_app_at E T hgd s x ho base w.drew v l hs hown y cs e' hcs b hb hx hlen hl hbase (fun g c w' o t hg => h g c w' o ((Touch.refl _ w).drew.trans t) hg)
end Go.Proofs.Ytkonojjillcfiaa

/- Walks of the heap's New, Len, Push. -/
namespace Go.Proofs.Ytkonojjillcfiaa
open Go.RowKit

/-- A heap whose blocks all lie in S. -/
def HeapIs (S : Nat → Prop) (w : World) (h : Nat) (l : List Thing) : Prop := ∃ v mb, HeapAt w h v mb l ∧ HeapOk l ∧ ∀ k, HFoot h v mb k → S k

theorem HeapIs.touch {S S' : Nat → Prop} {w w' : World} {h : Nat} {l : List Thing} (H : HeapIs S w h l) (t : Touch S' w w') (hs : ∀ k, S k → ¬ S' k) : HeapIs S w' h l := by
  obtain ⟨v, mb, h1, h2, h3⟩ := H
  exact ⟨v, mb, h1.touch t (fun k hk => hs k (h3 k hk)), h2, h3⟩
theorem HeapIs.ext {S : Nat → Prop} {w w' : World} {h : Nat} {l : List Thing} (H : HeapIs S w h l) (t : Ext w w') : HeapIs S w' h l := H.touch (S' := fun _ => False) (Touch.of_ext t) (fun _ _ x => x)
theorem HeapIs.mono {S S' : Nat → Prop} {w : World} {h : Nat} {l : List Thing} (H : HeapIs S w h l) (hs : ∀ k, k < w.heap.size → S k → S' k) : HeapIs S' w h l := by
  obtain ⟨v, mb, h1, h2, h3⟩ := H
  exact ⟨v, mb, h1, h2, fun k hk => hs k (h1.foot_lt hk) (h3 k hk)⟩

theorem Touch.after {S S' : Nat → Prop} {a b c : World} (h : Touch S a b) (k : Touch S' b c) (hs : ∀ k, k < a.heap.size → S' k → S k) : Touch S a c :=
  ⟨k.os.trans h.os, k.tape.trans h.tape, k.output.trans h.output, Nat.le_trans h.size k.size, fun i hi hn => (k.block i (Nat.lt_of_lt_of_le hi h.size) (fun hS => hn (hs i hi hS))).trans (h.block i hi hn)⟩

theorem hNew_any (w : World) : Calls Try.prog 63 #[] w fun e w' => ∃ h, e = .returned (.pointer (some ⟨h, 0, none⟩)) ∧ w.heap.size ≤ h ∧ Ext w w' ∧ HeapIs (fun k => w.heap.size ≤ k) w' h [] := by
  have hmm := @run_makeMap Try.prog
  go_enter Try.func63, Try.ntmps63
  go_wp2
  go_ret
  refine ⟨_, rfl, ?_, (by (with_reducible (repeat' (first | exact Ext.refl _ | assumption | refine Ext.drew ?_ | refine Ext.drewN ?_ _ | refine Ext.alloc ?_ _ | refine Ext.setCell ?_ ?_ _ | refine Ext.trans ?_ (by assumption)))); all_goals (first | (simp; done) | (simp; omega))), ?_⟩
  · simp
  · refine ⟨.slice none 0 0, w.heap.size, ⟨?_, Own.nil _ _ _ _, ?_, List.nodup_nil, (fun x hx => by cases hx)⟩, (fun j _ h => by simp at h), ?_⟩
    · have := Blk.new (w.alloc (.map #[] 0)) 138 #[.slice none 0 0, .map (some w.heap.size)]
      simpa using this
    · exact ((MapIn.made (P := Try.prog) (K := KM) w).ext ((Ext.refl _).alloc _)).congr (fun x => rfl)
    · rintro k (rfl | hk | rfl)
      · simp
      · simp [Value.ownBlock] at hk
      · exact Nat.le_refl _

theorem hLen_any {w : World} {h mb : Nat} {v : Value} {l : List Thing} (H : HeapAt w h v mb l) : Calls Try.prog 86 #[.pointer (some ⟨h, 0, none⟩)] w fun e w' => e = .returned (.int .i64 l.length) ∧ w = w' := by
  obtain ⟨a, c, rfl⟩ := H.own.slice
  have c0 : w.cell? ⟨h, 0, none⟩ = some (.slice a l.length c) := H.blk.cell 0
  clear H
  go_enter Try.func86, Try.ntmps86
  go_wp2
  go_ret
  exact ⟨rfl, rfl⟩

theorem HeapAt.pushed {w w9 : World} {h mb g c : Nat} {v : Value} {l : List Thing} (H : HeapAt w h v mb l) {t : Thing} (hid : t.1 ∉ ids l) (ht : Fits64 .i64 t.1) (o : Own thingE w9 0 160 (.slice (some ⟨g, 0, none⟩) (l.length + 1) c) (l ++ [t])) (T : Touch (fun k => v.ownBlock = some k) w w9) (hg : v.ownBlock = some g ∨ w.heap.size ≤ g) :
    Blk (w9.setCell ⟨h, 0, none⟩ (.slice (some ⟨g, 0, none⟩) (l.length + 1) c)) h 138 #[.slice (some ⟨g, 0, none⟩) (l.length + 1) c, .map (some mb)] ∧
    Own thingE (w9.setCell ⟨h, 0, none⟩ (.slice (some ⟨g, 0, none⟩) (l.length + 1) c)) 0 160 (.slice (some ⟨g, 0, none⟩) (l.length + 1) c) (l ++ [t]) ∧
    MapIn Try.prog KM (w9.setCell ⟨h, 0, none⟩ (.slice (some ⟨g, 0, none⟩) (l.length + 1) c)) mb (posO (ids l)) l.length ∧
    g ≠ h ∧ g ≠ mb ∧ Touch (HFoot h v mb) w (w9.setCell ⟨h, 0, none⟩ (.slice (some ⟨g, 0, none⟩) (l.length + 1) c)) := by
  have b9 := H.blk.touch T H.vh
  have gh : g ≠ h := by
    rintro rfl
    rcases hg with hg | hg
    · exact H.vh hg
    · have := H.blk.lt; omega
  have gm : g ≠ mb := by
    rintro rfl
    rcases hg with hg | hg
    · exact H.vm hg
    · have := H.map.lt; omega
  have ts : Touch (fun k => k = h) w9 (w9.setCell ⟨h, 0, none⟩ (.slice (some ⟨g, 0, none⟩) (l.length + 1) c)) := (Touch.refl (fun k => k = h) w9).setCell (p := ⟨h, 0, none⟩) (.inl rfl) _
  refine ⟨by simpa using b9.set_ 0 (.slice (some ⟨g, 0, none⟩) (l.length + 1) c), o.touch ts (fun k hk => by simp only [Value.ownBlock, Option.some.injEq] at hk; subst hk; exact gh), (H.map.touch T H.vm).touch ts (fun e => H.hm e.symm), gh, gm, ?_⟩
  exact (T.mono (fun k _ hk => .inr (.inl hk))).trans (ts.mono (fun k _ hk => .inl hk))

theorem pos_snoc {l : List Thing} {t : Thing} (hn : (ids l).Nodup) (ht : t.1 ∉ ids l) (x : Int) : upd (posO (ids l)) t.1 (l.length : Int) x = posO (ids (l ++ [t])) x := by
  have e : ids (l ++ [t]) = ids l ++ [t.1] := by simp [ids]
  refine posO_ext (f := upd (posO (ids l)) t.1 (l.length : Int)) ?_ (fun i y hy => ?_) (fun y hy => ?_) x
  · rw [e]
    exact List.nodup_append.2 ⟨hn, by simp, fun a ha b hb => by simp at hb; subst hb; rintro rfl; exact ht ha⟩
  · rw [e] at hy
    unfold upd
    by_cases hi : i < (ids l).length
    · rw [List.getElem?_append_left hi] at hy
      rw [if_neg (by rintro rfl; exact ht (List.mem_of_getElem? hy))]
      exact posO_at hn hy
    · rw [List.getElem?_append_right (by omega)] at hy
      obtain ⟨h1, h2⟩ := List.getElem?_eq_some_iff.1 hy
      simp at h1 h2
      rw [if_pos h2.symm]
      rw [ids_len] at h1 hi
      congr 1
      omega
  · rw [e] at hy
    simp at hy
    unfold upd
    rw [if_neg hy.2]
    exact posO_none hy.1

set_option maxRecDepth 100000 in
set_option maxHeartbeats 2000000 in
theorem hPush_at {w : World} {h mb : Nat} {v : Value} {l : List Thing} (H : HeapAt w h v mb l) (hok : HeapOk l) (hl : l.length ≤ 100000) (t : Thing) (ht : t.1 ∉ ids l) (hf : Fits64 .i64 t.1) :
    Calls Try.prog 83 #[.pointer (some ⟨h, 0, none⟩), .int .i64 t.1, keyV t.2] w fun e w' => e = .returned (.int .i64 0) ∧ ∃ v' l', HeapAt w' h v' mb l' ∧ HeapOk l' ∧ l'.Perm (t :: l) ∧ Touch (HFoot h v mb) w w' ∧ ∀ k, v'.ownBlock = some k → v.ownBlock = some k ∨ w.heap.size ≤ k := by
  obtain ⟨a, c, rfl⟩ := H.own.slice
  have c0 : w.cell? ⟨h, 0, none⟩ = some (.slice a l.length c) := H.blk.cell 0
  have c1 : w.cell? ⟨h, 1, none⟩ = some (.map (some mb)) := H.blk.cell 1
  have HH := hide H
  have HO := hide hok
  have HT := hide ht
  have HF := hide hf
  have HN := hide (show (posO (ids l) t.1).isSome = false by rw [posO_some]; simpa using ht)
  have zh := H.blk.lt
  obtain ⟨id, ⟨k1, k2⟩, k3, k4⟩ := t
  unfold keyV
  simp only at HT HF HN ⊢
  clear H hok ht hf
  go_enter Try.func83, Try.ntmps83
  go_upto_region 7 with (at_lookup; refine wpList_lookG _ KM_ok rfl _ _ rfl mb _ _ rfl (HH.out.map.ext (by (with_reducible (repeat' (first | exact Ext.refl _ | assumption | refine Ext.drew ?_ | refine Ext.drewN ?_ _ | refine Ext.alloc ?_ _ | refine Ext.setCell ?_ ?_ _ | refine Ext.trans ?_ (by assumption)))); all_goals (first | (simp; done) | (simp; omega)))) _ rfl HF.out ?_; intro cc hc; rw [HN.out]; clear hc)
  obtain ⟨w1, hw1⟩ : ∃ w1, w1 = w.alloc (.cells #[.int .u64 k1, .int .u64 k2, .int .i64 k3, .int .i64 k4] 142) := ⟨_, rfl⟩
  have hx1 : Ext w w1 := by rw [hw1]; exact (by (with_reducible (repeat' (first | exact Ext.refl _ | assumption | refine Ext.drew ?_ | refine Ext.drewN ?_ _ | refine Ext.alloc ?_ _ | refine Ext.setCell ?_ ?_ _ | refine Ext.trans ?_ (by assumption)))); all_goals (first | (simp; done) | (simp; omega)))
  have q0 : w1.cell? ⟨w.heap.size, 0, none⟩ = some (.int .u64 k1) := by rw [hw1]; simp [go_sem]
  have q1 : w1.cell? ⟨w.heap.size, 1, none⟩ = some (.int .u64 k2) := by rw [hw1]; simp [go_sem]
  have q2 : w1.cell? ⟨w.heap.size, 2, none⟩ = some (.int .i64 k3) := by rw [hw1]; simp [go_sem]
  have q3 : w1.cell? ⟨w.heap.size, 3, none⟩ = some (.int .i64 k4) := by rw [hw1]; simp [go_sem]
  have H1 := hide (HH.out.ext hx1)
  have d0 : w1.cell? ⟨h, 0, none⟩ = some (.slice a l.length c) := H1.out.blk.cell 0
  have d1 : w1.frozen? ⟨h, 0, none⟩ = false := H1.out.blk.frozen 0
  have zh1 : h < w1.heap.size := H1.out.blk.lt
  have zk1 : w.heap.size < w1.heap.size := by rw [hw1]; simp
  rw [← hw1]
  have HX1 := hide hx1
  clear hw1 hx1 c0 c1
  go_region_law (refine step_app_drew thingE T_things rfl _ _ rfl 0 _ _ l rfl H1.out.own (id, ((k1, k2), (k3, k4))) _ _ rfl _ rfl rfl (by omega) (by omega) (by omega) ?_; intro g9 c9 w9 o9 t9 l9; have b9 := H1.out.blk.touch t9 H1.out.vh; have e9 : w9.cell? ⟨h, 0, none⟩ = some (.slice a l.length c) := b9.cell 0; have f9 : w9.frozen? ⟨h, 0, none⟩ = false := b9.frozen 0; have P9 := hide (H1.out.pushed HT.out HF.out o9 t9 l9); have L9 := hide l9; clear o9 t9 l9 b9)
  all_goals
    obtain ⟨w2, hw2⟩ : ∃ w2, w2 = w9.setCell ⟨h, 0, none⟩ (.slice (some ⟨g9, 0, none⟩) (l.length + 1) c9) := ⟨_, rfl⟩
    rw [← hw2] at P9 ⊢
    clear hw2 e9 f9 q0 q1 q2 q3 d0 d1
    have m0 : w2.cell? ⟨h, 1, none⟩ = some (.map (some mb)) := P9.out.1.cell 1
    go_upto_region 9 with (at_mapUpdate; refine wpList_putG _ KM_ok rfl _ _ _ rfl mb _ _ rfl P9.out.2.2.1 _ rfl HF.out _ rfl (fits_nat (by omega)) (by omega) ?_; intro w3 m3 t3; have M3 := hide m3; have T3 := hide t3; clear m3 t3)
    obtain ⟨p1, p2, p3, p4, p5, p6⟩ := P9.out
    have hnd : (ids (l ++ [(id, ((k1, k2), (k3, k4)))])).Nodup := by
      have e : ids (l ++ [(id, ((k1, k2), (k3, k4)))]) = ids l ++ [id] := by simp [ids]
      rw [e]
      exact List.nodup_append.2 ⟨HH.out.nodup, by simp, fun a ha b hb => by simp at hb; subst hb; rintro rfl; exact HT.out ha⟩
    have hM : MapIn Try.prog KM w3 mb (posO (ids (l ++ [(id, ((k1, k2), (k3, k4)))]))) (l.length + 1) := by
      have := M3.out.congr (pos_snoc (t := (id, ((k1, k2), (k3, k4)))) HH.out.nodup HT.out)
      rw [HN.out] at this
      simpa using this
    have H3 := hide (show HeapAt w3 h (.slice (some ⟨g9, 0, none⟩) (l.length + 1) c9) mb (l ++ [(id, ((k1, k2), (k3, k4)))]) from ⟨p1.touch T3.out HH.out.hm, p2.touch T3.out (fun k hk => by simp only [Value.ownBlock, Option.some.injEq] at hk; subst hk; exact p5), by simpa using hM, hnd, fun t ht => by
      rcases List.mem_append.1 ht with ht | ht
      · exact HH.out.wf t ht
      · simp at ht; subst ht; exact HF.out⟩)
    have P6 := hide p6
    have hr := hide (push_rise HO.out (id, ((k1, k2), (k3, k4))))
    clear p1 p2 p3 p4 p5 p6 hnd hM P9 m0
    go_wp2_with (go_at_call 103; refine (hRise_any H3.out (by simp) (by simp; omega) hr.out).mono ?_; rintro e w4 ⟨rfl, h4⟩; have H4 := hide h4; clear h4)
    go_ret
    obtain ⟨l', a1, a2, a3, a4⟩ := H4.out
    refine ⟨rfl, _, l', a1, a4, a3.trans List.perm_append_comm, ?_, ?_⟩
    · refine (((Touch.of_ext HX1.out).trans (P6.out)).trans (T3.out.mono (fun k _ hk => .inr (.inr hk)))).after a2 ?_
      rintro k hk (rfl | hk2 | rfl)
      · exact .inl rfl
      · simp only [Value.ownBlock, Option.some.injEq] at hk2
        subst hk2
        rcases L9.out with h9 | h9
        · exact .inr (.inl h9)
        · have := HX1.out.size; omega
      · exact .inr (.inr rfl)
    · intro k hk
      simp only [Value.ownBlock, Option.some.injEq] at hk
      subst hk
      rcases L9.out with h9 | h9
      · exact .inl h9
      · exact .inr (Nat.le_trans HX1.out.size h9)
end Go.Proofs.Ytkonojjillcfiaa
