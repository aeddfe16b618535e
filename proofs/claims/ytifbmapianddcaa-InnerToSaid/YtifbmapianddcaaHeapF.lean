/- Walks of the heap's Lower and Pop. -/
import Derived.Test.YtifbmapianddcaaHeapE
import Derived.WalkSmall
namespace Go.Proofs.Ytifbmapianddcaa
open Go.RowKit

theorem less_at (a b : HKey) (w : World) : Calls Try.prog 156 #[.agg #[.int .u64 a.1.1, .int .u64 a.1.2, .int .i64 a.2.1, .int .i64 a.2.2], .agg #[.int .u64 b.1.1, .int .u64 b.1.2, .int .i64 b.2.1, .int .i64 b.2.2]] w fun e w' => e = .returned (.bool (lessB a b)) ∧ Ext w w' := hLess_any a b w

theorem tat_mem {l : List Thing} {i : Nat} (h : i < l.length) : tat l i ∈ l := by rw [tat_lt h]; exact List.getElem_mem h

theorem ids_set {l : List Thing} {i : Nat} (hi : i < l.length) {t : Thing} (ht : t.1 = (tat l i).1) : ids (l.set i t) = ids l := by
  unfold ids
  apply List.ext_getElem?
  intro j
  rw [List.getElem?_map, List.getElem?_map, List.getElem?_set]
  by_cases e : i = j
  · subst e
    simp [hi, ht, tat_lt hi]
  · simp [e]

theorem thing_turn {w : World} {base : Nat} {e : TypeId} {g n c : Nat} {l : List Thing} (h : Own thingE w base e (.slice (some ⟨g, 0, none⟩) n c) l) {i : Nat} (hi : i < l.length) (t : Thing) (ht : t.1 = (tat l i).1) :
    Own thingE (setRun w g (i * 5 + 1) [.int .u64 t.2.1.1, .int .u64 t.2.1.2, .int .i64 t.2.2.1, .int .i64 t.2.2.2]) base e (.slice (some ⟨g, 0, none⟩) n c) (l.set i t) := by
  obtain ⟨a', c', e'⟩ := h.slice
  have en : n = l.length := by injection e'
  subst en
  unfold Own at h ⊢
  rw [List.length_set, flat_set thingE l i t hi]
  have e1 : (l.flatMap thingE.cells)[i * 5]? = some (.int .i64 t.1) := flat_at thingE l i (tat l i) (by rw [List.getElem?_eq_getElem hi, tat_lt hi]) 0 _ (by rw [ht]; rfl)
  have e2 : (l.flatMap thingE.cells).set (i * 5) (.int .i64 t.1) = l.flatMap thingE.cells := by
    obtain ⟨h1, h2⟩ := List.getElem?_eq_some_iff.1 e1
    rw [← h2, List.set_getElem_self]
  show World.ownsRow _ _ _ _ _ _ (setMany ((l.flatMap thingE.cells).set (i * 5) (.int .i64 t.1)) (i * 5 + 1) [.int .u64 t.2.1.1, .int .u64 t.2.1.2, .int .i64 t.2.2.1, .int .i64 t.2.2.2])
  rw [e2]
  exact setRun_owns _ _ _ _ h

set_option maxRecDepth 100000 in
set_option maxHeartbeats 2000000 in
theorem hLower_at {w : World} {h mb : Nat} {v : Value} {l : List Thing} (H : HeapAt w h v mb l) (hok : HeapOk l) (hl : l.length ≤ 100000) {i : Nat} (hi : i < l.length) (t : Thing) (hid : t.1 = (tat l i).1) (hlt : lessB t.2 (tat l i).2 = true) :
    Calls Try.prog 115 #[.pointer (some ⟨h, 0, none⟩), .int .i64 t.1, keyV t.2] w fun e w' => e = .returned (.int .i64 0) ∧ Heaped w h v mb (l.set i t) w' := by
  obtain ⟨g, c, rfl⟩ : ∃ g c, v = .slice (some ⟨g, 0, none⟩) l.length c := by
    rcases H.own.2 with ⟨_, hn⟩ | ⟨g, cap, cur, hv, _⟩
    · omega
    · exact ⟨g, cap, hv⟩
  have c0 : w.cell? ⟨h, 0, none⟩ = some (.slice (some ⟨g, 0, none⟩) l.length c) := H.blk.cell 0
  have c1 : w.cell? ⟨h, 1, none⟩ = some (.map (some mb)) := H.blk.cell 1
  have HH := hide H
  have HF : Hid (Fits64 .i64 t.1) := hide (by rw [hid]; exact H.wf _ (tat_mem hi))
  have HP := hide (show posO (ids l) t.1 = some (i : Int) by rw [hid]; exact posO_at H.nodup (ids_get hi))
  have HN := hide (show (posO (ids l) t.1).isSome = true by rw [HP.out]; rfl)
  have HR := hide (show RiseOk (l.set i t) i from lower_rise hok hi (le_of_less hlt))
  have HLs := hide (fun w => less_at t.2 (tat l i).2 w)
  rw [hlt] at HLs
  have HO := hide (fun (w' : World) (o : Own thingE w' 0 222 (.slice (some ⟨g, 0, none⟩) l.length c) l) => thing_turn o hi t hid)
  have HI := hide (ids_set hi hid)
  obtain ⟨⟨a0, a1, a2, a3, a4⟩, fa0, fa1, fa2, fa3, fa4⟩ := thing_cells H.own hi
  have zh := H.blk.lt
  have zg : g < w.heap.size := H.foot_lt (.inr (.inl rfl))
  have gh : g ≠ h := fun e => H.vh (by rw [e]; rfl)
  have gm : g ≠ mb := fun e => H.vm (by rw [e]; rfl)
  have hil : (i : Int) < (l.length : Int) := by omega
  obtain ⟨id, ⟨k1, k2⟩, k3, k4⟩ := t
  generalize tat l i = A at *
  obtain ⟨A0, ⟨A1, A2⟩, A3, A4⟩ := A
  unfold keyV
  simp only at HF HN HP HLs a0 a1 a2 a3 a4 hid ⊢
  have HID := hide hid
  clear H hok hid hlt
  go_enter Try.func115, Try.ntmps115
  go_upto_region 6 with (at_lookup; refine wpList_lookG _ KM_ok rfl _ _ rfl mb _ _ rfl (HH.out.map.ext (by (with_reducible (repeat' (first | exact Ext.refl _ | assumption | refine Ext.drew ?_ | refine Ext.drewN ?_ _ | refine Ext.alloc ?_ _ | refine Ext.setCell ?_ ?_ _ | refine Ext.trans ?_ (by assumption)))); all_goals (first | (simp; done) | (simp; omega)))) _ rfl HF.out ?_; intro cc hc; rw [HN.out]; have ec := hc _ HP.out; subst ec; clear hc)
  obtain ⟨w1, hw1⟩ : ∃ w1, w1 = w.alloc (.cells #[.int .u64 k1, .int .u64 k2, .int .i64 k3, .int .i64 k4] 185) := ⟨_, rfl⟩
  have hx1 : Ext w w1 := by rw [hw1]; exact (by (with_reducible (repeat' (first | exact Ext.refl _ | assumption | refine Ext.drew ?_ | refine Ext.drewN ?_ _ | refine Ext.alloc ?_ _ | refine Ext.setCell ?_ ?_ _ | refine Ext.trans ?_ (by assumption)))); all_goals (first | (simp; done) | (simp; omega)))
  have q0 : w1.cell? ⟨w.heap.size, 0, none⟩ = some (.int .u64 k1) := by rw [hw1]; simp [go_sem]
  have q1 : w1.cell? ⟨w.heap.size, 1, none⟩ = some (.int .u64 k2) := by rw [hw1]; simp [go_sem]
  have q2 : w1.cell? ⟨w.heap.size, 2, none⟩ = some (.int .i64 k3) := by rw [hw1]; simp [go_sem]
  have q3 : w1.cell? ⟨w.heap.size, 3, none⟩ = some (.int .i64 k4) := by rw [hw1]; simp [go_sem]
  have zk1 : w.heap.size < w1.heap.size := by rw [hw1]; simp
  rw [← hw1]
  have H1 := hide (HH.out.ext hx1)
  have HX1 := hide hx1
  have d0 : w1.cell? ⟨h, 0, none⟩ = some (.slice (some ⟨g, 0, none⟩) l.length c) := H1.out.blk.cell 0
  have zh1 : h < w1.heap.size := H1.out.blk.lt
  have zg1 : g < w1.heap.size := H1.out.foot_lt (.inr (.inl rfl))
  have b1 := (hx1.cell (p := ⟨g, i * 5 + 1, none⟩) zg).trans a1
  have b2 := (hx1.cell (p := ⟨g, i * 5 + 2, none⟩) zg).trans a2
  have b3 := (hx1.cell (p := ⟨g, i * 5 + 3, none⟩) zg).trans a3
  have b4 := (hx1.cell (p := ⟨g, i * 5 + 4, none⟩) zg).trans a4
  clear hw1 hx1 c0 c1 a0 a1 a2 a3 a4 fa0 fa1 fa2 fa3 fa4
  go_wp2_with fail
  go_region_held3 (fun W => (∀ b o, b < w1.heap.size → W.cell? ⟨b, o, none⟩ = w1.cell? ⟨b, o, none⟩) ∧ Ext w1 W) (first | with_reducible exact pr_start _ | exact pr_of (by (with_reducible (repeat' (first | exact Ext.refl _ | assumption | refine Ext.drew ?_ | refine Ext.drewN ?_ _ | refine Ext.alloc ?_ _ | refine Ext.setCell ?_ ?_ _ | refine Ext.trans ?_ (by assumption)))); all_goals (first | (simp; done) | (simp; omega))))
    (first | (go_at_call 156; refine (HLs.out _).mono ?_; rintro e w3 ⟨rfl, hb3⟩))
  rename_i hS
  have hx3 : Ext w1 w3 := hS.2
  clear hS d0 b1 b2 b3 b4
  have H3 := hide (H1.out.ext hx3)
  have d0 : w3.cell? ⟨h, 0, none⟩ = some (.slice (some ⟨g, 0, none⟩) l.length c) := H3.out.blk.cell 0
  have e0 := (hx3.cell (p := ⟨w.heap.size, 0, none⟩) zk1).trans q0
  have e1 := (hx3.cell (p := ⟨w.heap.size, 1, none⟩) zk1).trans q1
  have e2 := (hx3.cell (p := ⟨w.heap.size, 2, none⟩) zk1).trans q2
  have e3 := (hx3.cell (p := ⟨w.heap.size, 3, none⟩) zk1).trans q3
  have HX3 := hide (HX1.out.trans hx3)
  obtain ⟨⟨_, a1, a2, a3, a4⟩, _, fa1, fa2, fa3, fa4⟩ := thing_cells H3.out.own hi
  have HO3 := hide (HO.out w3 H3.out.own)
  clear q0 q1 q2 q3 hb3 hx3
  go_wp2_with fail
  go_region
  obtain ⟨w5, hw5⟩ : ∃ w5, w5 = setRun w3 g (i * 5 + 1) [.int .u64 k1, .int .u64 k2, .int .i64 k3, .int .i64 k4] := ⟨_, rfl⟩
  have t5 : Touch (fun k => k = g) w3 w5 := by rw [hw5]; exact setRun_touch _ _ _ _
  have O5 := HO3.out
  rw [show setRun w3 g (i * 5 + 1) [.int .u64 (id, ((k1, k2), (k3, k4))).2.1.1, .int .u64 (id, ((k1, k2), (k3, k4))).2.1.2, .int .i64 (id, ((k1, k2), (k3, k4))).2.2.1, .int .i64 (id, ((k1, k2), (k3, k4))).2.2.2] = w5 from hw5.symm] at O5
  have HW := hide (show _ = w5 from hw5.symm)
  have H5 := hide (show HeapAt w5 h (.slice (some ⟨g, 0, none⟩) l.length c) mb (l.set i (id, ((k1, k2), (k3, k4)))) from ⟨H3.out.blk.touch t5 (fun e => gh e.symm), O5, by rw [HI.out, List.length_set]; exact H3.out.map.touch t5 (fun e => gm e.symm), by rw [HI.out]; exact H3.out.nodup, fun t ht => by
    rcases List.mem_or_eq_of_mem_set ht with ht | rfl
    · exact H3.out.wf t ht
    · exact HF.out⟩)
  have T5 := hide t5
  rw [show (((w3.setCell ⟨g, i * 5 + 1, none⟩ (.int .u64 k1)).setCell ⟨g, i * 5 + 2, none⟩ (.int .u64 k2)).setCell ⟨g, i * 5 + 3, none⟩ (.int .i64 k3)).setCell ⟨g, i * 5 + 4, none⟩ (.int .i64 k4) = w5 from HW.out]
  have H6 := hide (show HeapAt w5.drew h (.slice (some ⟨g, 0, none⟩) l.length c) mb (l.set i (id, ((k1, k2), (k3, k4)))) from H5.out.ext (Ext.refl _).drew)
  clear hw5 HW O5 t5 HO HO3 H5 a1 a2 a3 a4 fa1 fa2 fa3 fa4 d0 e0 e1 e2 e3
  obtain ⟨w6, hw6⟩ : ∃ w6, w6 = w5.drew := ⟨_, rfl⟩
  have T6 := hide (show Touch (HFoot h (.slice (some ⟨g, 0, none⟩) l.length c) mb) w w6 by rw [hw6]; exact ((Touch.of_ext HX3.out).trans (T5.out.mono (fun k _ hk => .inr (.inl (by rw [hk]; rfl))))).drew)
  rw [← hw6] at H6 ⊢
  clear hw6
  obtain ⟨n, hn⟩ : ∃ n, l.length = n := ⟨_, rfl⟩
  have hr := hRise_any H6.out (i := i) (by rw [List.length_set]; omega) (by rw [List.length_set]; omega) HR.out
  have hr := hide hr
  go_wp2_with (go_at_call 154; refine (hr.out).mono ?_; rintro e w4 ⟨rfl, h4⟩; have H4 := hide h4; clear h4)
  go_ret
  obtain ⟨l', x1, x2, x3, x4⟩ := H4.out
  exact ⟨rfl, l', x1, T6.out.trans x2, x3, x4⟩

theorem MapIn.drop_run {P : Program} {K : MapK} {w : World} {b N : Nat} {f : Int → Option Int} (O : K.Ok P) (h : MapIn P K w b f N) {k : Int} (hk : Fits64 K.qk k) (hin : (f k).isSome = true) (ty : TypeId) :
    ∃ w', (Builtin.delete_ #[K.tm, K.tk] ty #[.map (some b), .int K.qk k]).run P w = .ok (.tuple #[]) w' ∧ MapIn P K w' b (del f k) (N - 1) ∧ Touch (fun j => j = b) w w' := by
  obtain ⟨D, h1, h2, h3⟩ := h
  have KK := Maps.int_keyed O.key
  have tidy := h1.tidy KK
  obtain ⟨w', hrun, o', t'⟩ := h1.drop KK O.under (Maps.keyOf_int_mk O.key hk) ty
  have hsz : Maps.size (D.del (.int K.qk k)) = N - 1 := by
    have := Maps.size_del (k := Lit.int K.qk k) tidy
    rw [(h3 k).1, hin, h2] at this
    simp at this
    omega
  refine ⟨w', hrun, ⟨_, hsz ▸ exact_sizeG o', hsz, fun y => ?_⟩, turned_touchG t' rfl⟩
  unfold del
  by_cases hy : y = k
  · subst hy
    rw [Maps.has_del_same]
    simp only [if_true]
    exact ⟨rfl, fun c hc => by cases hc⟩
  · have hne : (Lit.int K.qk y) ≠ .int K.qk k := by simpa using hy
    rw [Maps.has_del_other hne]
    simp only [if_neg hy]
    exact ⟨(h3 y).1, fun c hc => by rw [Maps.atKey_del_other hne]; exact (h3 y).2 c hc⟩

theorem Own.popped {w : World} {base : Nat} {e : TypeId} {g n c : Nat} {l : List Thing} (h : Own thingE w base e (.slice (some ⟨g, 0, none⟩) (n + 1) c) l) (hl : l.length = n + 1) : Own thingE w base e (.slice (some ⟨g, 0, none⟩) n c) (l.take n) := by
  have e1 : l = l.take n ++ l.drop n := (List.take_append_drop n l).symm
  unfold Own at h ⊢
  rw [hl] at h
  rw [e1, List.flatMap_append] at h
  have : (l.take n).length = n := by rw [List.length_take]; omega
  rw [this]
  exact ownsRow_pop (by rw [Enc.flat_len, this]) h

theorem ids_take (l : List Thing) (n : Nat) : ids (l.take n) = (ids l).take n := by simp [ids, List.map_take]
theorem pos_pop {l : List Thing} {n : Nat} (hn : (ids l).Nodup) (hl : l.length = n + 1) (x : Int) : del (posO (ids l)) (tat l n).1 x = posO (ids (l.take n)) x := by
  have hlast : (ids l)[n]? = some (tat l n).1 := ids_get (by omega)
  have hne : (tat l n).1 ∉ ids (l.take n) := by
    rw [ids_take]
    intro hm
    obtain ⟨j, hj⟩ := List.mem_iff_getElem?.1 hm
    rw [List.getElem?_take] at hj
    split at hj
    · obtain ⟨a1, a2⟩ := List.getElem?_eq_some_iff.1 hj
      obtain ⟨b1, b2⟩ := List.getElem?_eq_some_iff.1 hlast
      have := (List.getElem_inj (h₀ := a1) (h₁ := b1) hn).1 (by rw [a2, b2])
      omega
    · cases hj
  refine posO_ext (by rw [ids_take]; exact hn.sublist (List.take_sublist _ _)) (fun i y hy => ?_) (fun y hy => ?_) x
  · have hy2 := hy
    rw [ids_take, List.getElem?_take] at hy2
    split at hy2
    · unfold del
      rw [if_neg (by rintro rfl; exact hne (List.mem_of_getElem? hy))]
      exact posO_at hn hy2
    · cases hy2
  · unfold del
    split
    · rfl
    · rename_i hyn
      refine posO_none fun hm => hy ?_
      rw [ids_take]
      obtain ⟨j, hj⟩ := List.mem_iff_getElem?.1 hm
      obtain ⟨a1, a2⟩ := List.getElem?_eq_some_iff.1 hj
      rw [ids_len] at a1
      refine List.mem_iff_getElem?.2 ⟨j, ?_⟩
      rw [List.getElem?_take]
      by_cases e : j < n
      · rw [if_pos e]; exact hj
      · obtain rfl : j = n := by omega
        rw [hlast] at hj
        exact absurd (Option.some.inj hj).symm hyn

/-- What a heap is behind a pop. -/
def Popped (w : World) (h mb : Nat) (v : Value) (l : List Thing) (w' : World) : Prop :=
  ∃ v' l', HeapAt w' h v' mb l' ∧ HeapOk l' ∧ (tat l 0 :: l').Perm l ∧ Touch (HFoot h v mb) w w' ∧ v'.ownBlock = v.ownBlock

theorem hPop_none {w : World} {h mb : Nat} {v : Value} (H : HeapAt w h v mb []) : Calls Try.prog 117 #[.pointer (some ⟨h, 0, none⟩)] w fun e w' => e = .returned (.tuple #[.int .i64 0, .agg #[.int .u64 0, .int .u64 0, .int .i64 0, .int .i64 0], .bool false]) ∧ Ext w w' := by
  have HH := hide H
  clear H
  go_enter Try.func117, Try.ntmps117
  go_wp2_with (go_at_call 116; refine (hLen_any (HH.out.ext (by (with_reducible (repeat' (first | exact Ext.refl _ | assumption | refine Ext.drew ?_ | refine Ext.drewN ?_ _ | refine Ext.alloc ?_ _ | refine Ext.setCell ?_ ?_ _ | refine Ext.trans ?_ (by assumption)))); all_goals (first | (simp; done) | (simp; omega))))).mono ?_; rintro e w1 ⟨rfl, rfl⟩)
  exact bodyPost_ret (v := .tuple #[.int .i64 0, .agg #[.int .u64 0, .int .u64 0, .int .i64 0, .int .i64 0], .bool false]) (by simp [results, Try.results117, go_sem, *]) rfl ⟨rfl, (by (with_reducible (repeat' (first | exact Ext.refl _ | assumption | refine Ext.drew ?_ | refine Ext.drewN ?_ _ | refine Ext.alloc ?_ _ | refine Ext.setCell ?_ ?_ _ | refine Ext.trans ?_ (by assumption)))); all_goals (first | (simp; done) | (simp; omega)))⟩

set_option maxRecDepth 100000 in
set_option maxHeartbeats 4000000 in
theorem hPop_at {w : World} {h mb : Nat} {v : Value} {l : List Thing} (H : HeapAt w h v mb l) (hok : HeapOk l) (hl : l.length ≤ 100000) (h0 : 0 < l.length) :
    Calls Try.prog 117 #[.pointer (some ⟨h, 0, none⟩)] w fun e w' => e = .returned (.tuple #[.int .i64 (tat l 0).1, keyV (tat l 0).2, .bool true]) ∧ Popped w h mb v l w' := by
  obtain ⟨g, c, rfl⟩ : ∃ g c, v = .slice (some ⟨g, 0, none⟩) l.length c := by
    rcases H.own.2 with ⟨_, hn⟩ | ⟨g, cap, cur, hv, _⟩
    · omega
    · exact ⟨g, cap, hv⟩
  obtain ⟨n, hn⟩ : ∃ n, l.length = n + 1 := ⟨l.length - 1, by omega⟩
  obtain ⟨hnc, hnc2⟩ : n ≤ c ∧ c ≤ maxLen := by
    rcases H.own.2 with ⟨_, hz⟩ | ⟨g', cap, cur, hv, _, _, h1, h2, _⟩
    · omega
    · cases hv; exact ⟨by omega, h2⟩
  have hnc3 : (n : Int) ≤ (c : Int) := by omega
  have hle : l.length ≤ 1000000 := by omega
  have HS := hide (fun (w' : World) (X : HeapAt w' h (.slice (some ⟨g, 0, none⟩) l.length c) mb l) => swap_any X (i := 0) (k := n) h0 (by omega) hle)
  obtain ⟨⟨a0, a1, a2, a3, a4⟩, _⟩ := thing_cells H.own h0
  have c0 : w.cell? ⟨h, 0, none⟩ = some (.slice (some ⟨g, 0, none⟩) l.length c) := H.blk.cell 0
  have zh := H.blk.lt
  have zg : g < w.heap.size := H.foot_lt (.inr (.inl rfl))
  have HL := hide (fun (w' : World) (X : Ext w w') => hLen_any (H.ext X))
  rw [hn] at HS c0 HL H ⊢
  have HH := hide H
  have HN := hide hn
  have HO := hide hok
  have HF := hide (H.wf _ (tat_mem h0))
  simp only [Nat.zero_mul, Nat.zero_add] at a0 a1 a2 a3 a4
  obtain ⟨A, hA⟩ : ∃ A, tat l 0 = A := ⟨_, rfl⟩
  rw [hA] at a0 a1 a2 a3 a4 HF ⊢
  have HAA := hide hA
  clear hA
  clear H hok hn
  go_enter Try.func117, Try.ntmps117
  go_wp2_with (go_at_call 116; refine (HL.out _ (by (with_reducible (repeat' (first | exact Ext.refl _ | assumption | refine Ext.drew ?_ | refine Ext.drewN ?_ _ | refine Ext.alloc ?_ _ | refine Ext.setCell ?_ ?_ _ | refine Ext.trans ?_ (by assumption)))); all_goals (first | (simp; done) | (simp; omega)))).mono ?_; rintro e w1 ⟨rfl, rfl⟩)
  obtain ⟨w1, hw1⟩ : ∃ w1, w1 = w.alloc (.cells #[.int .u64 0, .int .u64 0, .int .i64 0, .int .i64 0] 185) := ⟨_, rfl⟩
  have hx1 : Ext w w1 := by rw [hw1]; exact (by (with_reducible (repeat' (first | exact Ext.refl _ | assumption | refine Ext.drew ?_ | refine Ext.drewN ?_ _ | refine Ext.alloc ?_ _ | refine Ext.setCell ?_ ?_ _ | refine Ext.trans ?_ (by assumption)))); all_goals (first | (simp; done) | (simp; omega)))
  have hkb : w1.heap.size = w.heap.size + 1 := by rw [hw1]; simp
  have K1 := hide (show Blk w1 w.heap.size 185 #[.int .u64 0, .int .u64 0, .int .i64 0, .int .i64 0] by rw [hw1]; exact Blk.new _ _ _)
  rw [← hw1]
  have H1 := hide (HH.out.ext hx1)
  have HX1 := hide hx1
  have d0 : w1.cell? ⟨h, 0, none⟩ = some (.slice (some ⟨g, 0, none⟩) (n + 1) c) := H1.out.blk.cell 0
  have zh1 : h < w1.heap.size := by omega
  have zg1 : g < w1.heap.size := by omega
  have b0 := (hx1.cell (p := ⟨g, 0, none⟩) zg).trans a0
  have b1 := (hx1.cell (p := ⟨g, 1, none⟩) zg).trans a1
  have b2 := (hx1.cell (p := ⟨g, 2, none⟩) zg).trans a2
  have b3 := (hx1.cell (p := ⟨g, 3, none⟩) zg).trans a3
  have b4 := (hx1.cell (p := ⟨g, 4, none⟩) zg).trans a4
  have hpn : (0 : Int) < (n : Int) + 1 := by omega
  have hn2 : n ≤ 100000 := by have := HN.out; omega
  clear hw1 hx1 c0 a0 a1 a2 a3 a4
  go_region
  obtain ⟨w2, hw2⟩ : ∃ w2, w2 = (w1.alloc (.cells #[.int .i64 A.1, .int .u64 A.2.1.1, .int .u64 A.2.1.2, .int .i64 A.2.2.1, .int .i64 A.2.2.2] 222)).drew := ⟨_, rfl⟩
  have hx2 : Ext w1 w2 := by rw [hw2]; exact (by (with_reducible (repeat' (first | exact Ext.refl _ | assumption | refine Ext.drew ?_ | refine Ext.drewN ?_ _ | refine Ext.alloc ?_ _ | refine Ext.setCell ?_ ?_ _ | refine Ext.trans ?_ (by assumption)))); all_goals (first | (simp; done) | (simp; omega)))
  have F2 := hide (show Blk w2 (w.heap.size + 1) 222 #[.int .i64 A.1, .int .u64 A.2.1.1, .int .u64 A.2.1.2, .int .i64 A.2.2.1, .int .i64 A.2.2.2] by rw [hw2, ← hkb]; exact Blk.new w1 _ _)
  have K2 := hide (K1.out.ext hx2)
  have H2 := hide (H1.out.ext hx2)
  have HX2 := hide (HX1.out.trans hx2)
  rw [← hw2]
  clear hw2 hx2 b0 b1 b2 b3 b4 d0 K1 HX1 zh1 zg1 hkb
  go_upto_region 5 with (go_at_call 157; refine (HS.out _ H2.out).mono ?_; rintro e w3 ⟨rfl, h3, t3⟩; have H3 := hide h3; have T3 := hide t3; clear h3 t3)
  have nK : ¬ HFoot h (.slice (some ⟨g, 0, none⟩) (n + 1) c) mb w.heap.size := fun x => by have := HH.out.foot_lt x; omega
  have nF : ¬ HFoot h (.slice (some ⟨g, 0, none⟩) (n + 1) c) mb (w.heap.size + 1) := fun x => by have := HH.out.foot_lt x; omega
  have hsl : (swp l 0 n).length = n + 1 := by rw [swp_len]; exact HN.out
  have d0 : w3.cell? ⟨h, 0, none⟩ = some (.slice (some ⟨g, 0, none⟩) (n + 1) c) := H3.out.blk.cell 0
  have d1 : w3.frozen? ⟨h, 0, none⟩ = false := H3.out.blk.frozen 0
  obtain ⟨w4, hw4⟩ : ∃ w4, w4 = w3.setCell ⟨h, 0, none⟩ (.slice (some ⟨g, 0, none⟩) n c) := ⟨_, rfl⟩
  have t4 : Touch (fun k => k = h) w3 w4 := by rw [hw4]; exact (Touch.refl (fun k => k = h) w3).setCell (p := ⟨h, 0, none⟩) (.inl rfl) _
  have gh : g ≠ h := fun e => HH.out.vh (by rw [e]; rfl)
  have gm : g ≠ mb := fun e => HH.out.vm (by rw [e]; rfl)
  have B4 := hide (show Blk w4 h 180 #[.slice (some ⟨g, 0, none⟩) n c, .map (some mb)] by rw [hw4]; simpa using H3.out.blk.set_ 0 (.slice (some ⟨g, 0, none⟩) n c))
  have O4 := hide ((H3.out.own.popped hsl).touch t4 (fun k hk => by simp only [Value.ownBlock, Option.some.injEq] at hk; subst hk; exact gh))
  have hlast : (tat (swp l 0 n) n).1 = A.1 := by rw [tat_swp (by have := HN.out; omega) (by have := HN.out; omega), if_pos rfl, HAA.out]
  have M4 := H3.out.map.touch t4 (fun e => HH.out.hm e.symm)
  rw [hsl] at M4
  obtain ⟨w5, r5, m5, t5⟩ := M4.drew.drop_run KM_ok (k := A.1) HF.out (by rw [← hlast, posO_some]; simpa using List.mem_of_getElem? (ids_get (l := swp l 0 n) (i := n) (by omega))) 0
  simp only [KM] at r5
  have F4 := hide (F2.out.touch (T3.out.trans (t4.mono (fun k _ hk => .inl hk))) nF)
  have K4 := hide (K2.out.touch (T3.out.trans (t4.mono (fun k _ hk => .inl hk))) nK)
  have T4 := hide t4
  have T5 := hide t5
  have M5 := hide m5
  clear t4 t5 m5 M4
  subst hw4
  go_wp2_with fail
  have e1 : (w3.setCell ⟨h, 0, none⟩ (.slice (some ⟨g, 0, none⟩) n c)).cell? ⟨h, 1, none⟩ = some (.map (some mb)) := B4.out.cell 1
  have e2 : (w3.setCell ⟨h, 0, none⟩ (.slice (some ⟨g, 0, none⟩) n c)).cell? ⟨w.heap.size + 1, 0, none⟩ = some (.int .i64 A.1) := F4.out.cell 0
  clear d0 d1
  go_region
  have t45 : Touch (fun j => j = mb) (w3.setCell ⟨h, 0, none⟩ (.slice (some ⟨g, 0, none⟩) n c)) w5 := ((Touch.refl _ _).drew).trans T5.out
  have T5' : Touch (HFoot h (.slice (some ⟨g, 0, none⟩) (n + 1) c) mb) w w5 := by
    have x1 : Touch (HFoot h (.slice (some ⟨g, 0, none⟩) (n + 1) c) mb) w w3 := (Touch.of_ext HX2.out).trans T3.out
    exact (x1.trans (T4.out.mono (fun k _ hk => Or.inl hk))).trans (t45.mono (fun k _ hk => Or.inr (Or.inr hk)))
  have F5 := hide (F4.out.touch t45 (fun e => nF (Or.inr (Or.inr e))))
  have K5 := hide (K4.out.touch t45 (fun e => nK (Or.inr (Or.inr e))))
  have nd : (ids (swp l 0 n)).Nodup := H3.out.nodup
  have H5 := hide (show HeapAt w5 h (.slice (some ⟨g, 0, none⟩) n c) mb ((swp l 0 n).take n) from ⟨B4.out.touch t45 (fun e => HH.out.hm e), O4.out.touch t45 (fun k hk => by simp only [Value.ownBlock, Option.some.injEq] at hk; subst hk; exact gm), by
      have := M5.out.congr (g := posO (ids ((swp l 0 n).take n))) (fun x => by rw [← hlast]; exact pos_pop nd hsl x)
      rw [List.length_take, hsl, Nat.min_eq_left (Nat.le_succ n)]
      exact this, by rw [ids_take]; exact nd.sublist (List.take_sublist _ _), fun t ht => H3.out.wf t (List.mem_of_mem_take ht)⟩)
  have HSk := hide (hSink_any H5.out (by rw [List.length_take, hsl]; omega) (pop_sink HO.out n HN.out))
  have T5h := hide T5'
  clear H3 T3 T4 T5 M5 B4 O4 F4 K4 F2 K2 H2 HX2 t45 e1 e2 r5 T5' hlast
  go_wp2_with (go_at_call 158; refine (HSk.out).mono ?_; rintro e w6 ⟨rfl, h6⟩; have H6 := hide h6; clear h6)
  obtain ⟨l', x1, x2, x3, x4⟩ := H6.out
  have nK' : ¬ HFoot h (.slice (some ⟨g, 0, none⟩) n c) mb w.heap.size := nK
  have nF' : ¬ HFoot h (.slice (some ⟨g, 0, none⟩) n c) mb (w.heap.size + 1) := nF
  have F6 := F5.out.touch x2 nF'
  have K6 := K5.out.touch x2 nK'
  have f0 : w6.cell? ⟨w.heap.size + 1, 0, none⟩ = some (.int .i64 A.1) := F6.cell 0
  have f1 : w6.cell? ⟨w.heap.size + 1, 1, none⟩ = some (.int .u64 A.2.1.1) := F6.cell 1
  have f2 : w6.cell? ⟨w.heap.size + 1, 2, none⟩ = some (.int .u64 A.2.1.2) := F6.cell 2
  have f3 : w6.cell? ⟨w.heap.size + 1, 3, none⟩ = some (.int .i64 A.2.2.1) := F6.cell 3
  have f4 : w6.cell? ⟨w.heap.size + 1, 4, none⟩ = some (.int .i64 A.2.2.2) := F6.cell 4
  have g0 : w6.cell? ⟨w.heap.size, 0, none⟩ = some (.int .u64 0) := K6.cell 0
  have g1 : w6.cell? ⟨w.heap.size, 1, none⟩ = some (.int .u64 0) := K6.cell 1
  have g2 : w6.cell? ⟨w.heap.size, 2, none⟩ = some (.int .i64 0) := K6.cell 2
  have g3 : w6.cell? ⟨w.heap.size, 3, none⟩ = some (.int .i64 0) := K6.cell 3
  have k0 := K6.frozen 0
  have k1 := K6.frozen 1
  have k2 := K6.frozen 2
  have k3 := K6.frozen 3
  have X1 := hide x1
  have X2 := hide x2
  have X3 := hide x3
  have X4 := hide x4
  clear F6 K6 x1 x2 x3 x4 H6 F5 K5
  go_region
  obtain ⟨w7, hw7⟩ : ∃ w7, w7 = ((((w6.setCell ⟨w.heap.size, 0, none⟩ (.int .u64 A.2.1.1)).setCell ⟨w.heap.size, 1, none⟩ (.int .u64 A.2.1.2)).setCell ⟨w.heap.size, 2, none⟩ (.int .i64 A.2.2.1)).setCell ⟨w.heap.size, 3, none⟩ (.int .i64 A.2.2.2)).drew := ⟨_, rfl⟩
  have t7 : Touch (fun k => k = w.heap.size) w6 w7 := by
    have := setRun_touch w.heap.size [.int .u64 A.2.1.1, .int .u64 A.2.1.2, .int .i64 A.2.2.1, .int .i64 A.2.2.2] w6 0
    rw [hw7]; exact this.drew
  have y0 : w7.cell? ⟨w.heap.size, 0, none⟩ = some (.int .u64 A.2.1.1) := by rw [hw7]; simp [go_sem, *]
  have y1 : w7.cell? ⟨w.heap.size, 1, none⟩ = some (.int .u64 A.2.1.2) := by rw [hw7]; simp [go_sem, *]
  have y2 : w7.cell? ⟨w.heap.size, 2, none⟩ = some (.int .i64 A.2.2.1) := by rw [hw7]; simp [go_sem, *]
  have y3 : w7.cell? ⟨w.heap.size, 3, none⟩ = some (.int .i64 A.2.2.2) := by rw [hw7]; simp [go_sem, *]
  rw [← hw7]
  have hfin : Popped w h mb (.slice (some ⟨g, 0, none⟩) (n + 1) c) l w7 := by
    refine ⟨_, l', X1.out.touch t7 (fun k hk e => nK (by rw [← e]; exact hk)), X4.out, ?_, ?_, rfl⟩
    · have hm : (tat l 0 :: (swp l 0 n).take n).Perm l := by
        have hlt : n < (swp l 0 n).length := by omega
        have e1 : swp l 0 n = (swp l 0 n).take n ++ [tat l 0] := by
          have : tat (swp l 0 n) n = tat l 0 := by rw [tat_swp (by omega) (by have := HN.out; omega), if_pos rfl]
          rw [← this, tat_lt hlt]
          have h9 := List.take_append_getElem hlt
          rw [h9, List.take_of_length_le (by omega)]
        have e2 : (swp l 0 n).Perm l := swp_perm h0 (by have := HN.out; omega)
        rw [e1] at e2
        exact (List.perm_append_comm (l₁ := [tat l 0])).trans e2
      exact (X3.out.cons _).trans hm
    · exact ((T5h.out.trans X2.out).after t7 (fun k hk e => by omega))
  have HFI := hide hfin
  clear hw7 f0 f1 f2 f3 f4 g0 g1 g2 g3 k0 k1 k2 k3 hfin
  go_wp2_with fail
  exact bodyPost_ret (v := .tuple #[.int .i64 A.1, .agg #[.int .u64 A.2.1.1, .int .u64 A.2.1.2, .int .i64 A.2.2.1, .int .i64 A.2.2.2], .bool true]) (by simp [results, Try.results117, go_sem, *]) rfl ⟨rfl, HFI.out⟩
end Go.Proofs.Ytifbmapianddcaa
