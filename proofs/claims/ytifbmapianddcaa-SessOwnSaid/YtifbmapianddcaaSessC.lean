/- The walk of sess' Open. -/
import Derived.Test.YtifbmapianddcaaSessB
import Derived.Deep.DeepCutAuto
set_option linter.all false
set_option linter.unusedVariables false
set_option linter.unusedSimpArgs false
namespace Go.Proofs.Ytifbmapianddcaa
open Go.RowKit

theorem own_pos {α : Type} {E : Enc α} {w : World} {base : Nat} {e : TypeId} {v : Value} {l : List α} (h : Own E w base e v l) (hl : 0 < l.length) : ∃ g c, v = .slice (some ⟨g, 0, none⟩) l.length c ∧ base ≤ g ∧ g < w.heap.size := by
  rcases h.2 with ⟨_, hn⟩ | ⟨g, cap, cur, hv, hb, hg, _⟩
  · omega
  · exact ⟨g, cap, hv, hb, lt_of_block hg⟩
theorem MapIs.len_run {w : World} {b N : Nat} {f : Int → Option Int} (h : MapIs w b f N) (ty : TypeId) : (Builtin.len_ #[147] ty #[.map (some b)]).run Try.prog w = .ok (.int .i64 (N : Int)) w := by
  obtain ⟨D, h1, h2, _⟩ := h
  rw [← h2]
  exact h1.len Try.underlying147 ty
theorem MapIs.drewN {w : World} {b N : Nat} {f : Int → Option Int} (h : MapIs w b f N) (k : Nat) : MapIs (w.drewN k) b f N := h
theorem MapIs.drew {w : World} {b N : Nat} {f : Int → Option Int} (h : MapIs w b f N) : MapIs w.drew b f N := h
theorem Touch.drewN_self (S : Nat → Prop) (w : World) (n : Nat) : Touch S w (w.drewN n) := (Touch.refl S w).drewN n

section
variable {w : World} {d : Nat} {v : Value} {n e : Nat} {most : Int} {row ever now : List Int}

set_option maxRecDepth 100000 in
theorem sOpen_full (h : DeskAt w d v n e most row ever now) (hm : most ≤ (now.length : Int)) : Calls Try.prog 42 #[.pointer (some ⟨d, 0, none⟩)] w fun r w' => r = .returned (.tuple #[.int .u64 0, .int .i64 16]) ∧ Ext w w' := by
  have c0 : w.cell? ⟨d, 0, none⟩ = some (.int .i64 most) := h.blk.cell 0
  have c2 : w.cell? ⟨d, 2, none⟩ = some (.map (some n)) := h.blk.cell 2
  have hlen := fun nq ty => MapIs.len_run (h.mnow.drewN nq) ty
  clear h
  go_enter Try.func42, Try.ntmps42
  go_wp2_with fail
  go_quiet (fail)
  go_wp2
  go_ret2
  exact ⟨rfl, (by (with_reducible (repeat' (first | exact Ext.refl _ | assumption | refine Ext.drew ?_ | refine Ext.drewN ?_ _ | refine Ext.alloc ?_ _ | refine Ext.setCell ?_ ?_ _ | refine Ext.trans ?_ (by assumption)))); all_goals (first | (simp; done) | (simp; omega)))⟩

set_option maxRecDepth 100000 in
theorem sOpen_none (h : DeskAt w d v n e most [] ever now) (hm : (now.length : Int) < most) : Calls Try.prog 42 #[.pointer (some ⟨d, 0, none⟩)] w fun r w' => r = .returned (.tuple #[.int .u64 0, .int .i64 14]) ∧ Ext w w' := by
  obtain ⟨a, c, rfl⟩ := h.own.slice
  have c0 : w.cell? ⟨d, 0, none⟩ = some (.int .i64 most) := h.blk.cell 0
  have c1 : w.cell? ⟨d, 1, none⟩ = some (.slice a 0 c) := h.blk.cell 1
  have c2 : w.cell? ⟨d, 2, none⟩ = some (.map (some n)) := h.blk.cell 2
  have hlen := fun nq ty => MapIs.len_run (h.mnow.drewN nq) ty
  clear h
  go_enter Try.func42, Try.ntmps42
  go_wp2_with fail
  go_quiet (fail)
  go_wp2
  go_ret2
  exact ⟨rfl, (by (with_reducible (repeat' (first | exact Ext.refl _ | assumption | refine Ext.drew ?_ | refine Ext.drewN ?_ _ | refine Ext.alloc ?_ _ | refine Ext.setCell ?_ ?_ _ | refine Ext.trans ?_ (by assumption)))); all_goals (first | (simp; done) | (simp; omega)))⟩

theorem Turned.pre {w1 w' : World} {row' ever' now' : List Int} (h : Turned w1 d v n e most row' ever' now' w') (x : Ext w w1) : Turned w d v n e most row' ever' now' w' := by
  obtain ⟨v', h1, h2, h3⟩ := h
  refine ⟨v', h1, (Touch.of_ext x).trans h2, fun k hk => ?_⟩
  have := x.size
  rcases h3 k hk with h4 | h4
  · exact .inl h4
  · exact .inr (by omega)

theorem wfTail {t : Int} {r : List Int} (h : ∀ x ∈ t :: r, U64 x) : U64 t ∧ ∀ x ∈ r, U64 x := ⟨h t (by simp), fun x hx => h x (by simp [hx])⟩

theorem own_head {t : Int} {r : List Int} {g c q : Nat} (h : Own u64E w 0 38 (.slice (some ⟨g, 0, none⟩) q c) (t :: r)) : w.cell? ⟨g, 0, none⟩ = some (.int .u64 t) := by
  have := h.reads.u64s.2 0 (by simp)
  simpa using this

set_option maxRecDepth 100000 in
theorem sOpen_retry {t : Int} {r : List Int} (h : DeskAt w d v n e most (t :: r) ever now) (hm : (now.length : Int) < most) (hl : r.length ≤ 100000) (ht : t ∈ ever ∨ t = 0) : Calls Try.prog 42 #[.pointer (some ⟨d, 0, none⟩)] w fun x w' => x = .returned (.tuple #[.int .u64 0, .int .i64 20]) ∧ Turned w d v n e most r ever now w' := by
  obtain ⟨g, c, rfl, _, hg⟩ := own_pos h.own (by simp)
  obtain ⟨q, hq⟩ : ∃ q, r.length = q := ⟨_, rfl⟩
  simp only [List.length_cons, hq] at h hl hg ⊢
  have HQ := hide hq
  clear hq
  have c0 : w.cell? ⟨d, 0, none⟩ = some (.int .i64 most) := h.blk.cell 0
  have c2 : w.cell? ⟨d, 2, none⟩ = some (.map (some n)) := h.blk.cell 2
  have hlen := fun nq ty => MapIs.len_run (h.mnow.drewN nq) ty
  have H := hide h
  have HT := hide ht
  clear h ht
  go_enter Try.func42, Try.ntmps42
  go_wp2_with fail
  go_quiet (fail)
  obtain ⟨w1, hw1⟩ : ∃ w1, w1 = w.drewN nq := ⟨_, rfl⟩
  rw [← hw1]
  have hx1 : Ext w w1 := by rw [hw1]; exact (Ext.refl w).drewN _
  have H1 := hide (H.out.ext hx1)
  have d1 : w1.cell? ⟨d, 1, none⟩ = some (.slice (some ⟨g, 0, none⟩) (q + 1) c) := H1.out.blk.cell 1
  have d2 : w1.cell? ⟨g, 0, none⟩ = some (.int .u64 t) := own_head H1.out.own
  clear c0 c2 hlen hw1 hg
  go_upto_region 9 with (go_at_call 89; refine (delete_first g c q t r _ HQ.out H1.out.own hl).mono ?_; rintro x w2 ⟨rfl, o2, t2⟩; have b2 := H1.out.blk.touch t2 (fun x => H1.out.vd (by rw [x]; rfl)); have e1 : w2.cell? ⟨d, 1, none⟩ = some (.slice (some ⟨g, 0, none⟩) (q + 1) c) := b2.cell 1; have f1 : w2.frozen? ⟨d, 1, none⟩ = false := b2.frozen 1; have O2 := hide o2; have T2 := hide t2; clear o2 t2 b2)
  have tg : Touch (fun k => (Value.slice (some ⟨g, 0, none⟩) (q + 1) c).ownBlock = some k) w1 w2 := T2.out.mono (fun k _ hk => by rw [hk]; rfl)
  obtain ⟨w3, hw3⟩ : ∃ w3, w3 = w2.setCell ⟨d, 1, none⟩ (.slice (some ⟨g, 0, none⟩) q c) := ⟨_, rfl⟩
  have D3 := desk_row2 H1.out O2.out tg (fun k hk => .inl hk) (wfTail H1.out.wf).2
  rw [← hw3] at D3 ⊢
  have H3 := hide D3.1
  have T3 := hide D3.2
  have HU := hide (wfTail H1.out.wf).1
  clear D3 hw3 e1 f1 O2 T2 tg d1 d2
  have e3 : w3.cell? ⟨d, 3, none⟩ = some (.map (some e)) := H3.out.blk.cell 3
  by_cases htm : t ∈ ever
  · have hb := hide (show (idxO ever t).isSome = true by rw [idxO_some]; simpa using htm)
    clear htm
    go_wp2_with (at_lookup; refine wpList_look _ rfl _ _ rfl e _ _ rfl H3.out.mever t rfl HU.out ?_; intro cc hc; rw [hb.out]; clear hc)
    go_ret2
    exact ⟨rfl, Turned.pre ⟨_, H3.out, T3.out, fun k hk => .inl hk⟩ hx1⟩
  · have hb := hide (show (idxO ever t).isSome = false by rw [idxO_some]; simpa using htm)
    have ht0 : t = 0 := HT.out.resolve_left htm
    clear htm
    subst ht0
    go_wp2_with (at_lookup; refine wpList_look _ rfl _ _ rfl e _ _ rfl H3.out.mever 0 rfl HU.out ?_; intro cc hc; rw [hb.out]; clear hc)
    go_ret2
    exact ⟨rfl, Turned.pre ⟨_, H3.out, T3.out, fun k hk => .inl hk⟩ hx1⟩

theorem nowO_snoc {ever now : List Int} {t : Int} (ht : t ∉ ever) (y : Int) : (if y = t then some (ever.length : Int) else nowO ever now y) = nowO (ever ++ [t]) (now ++ [t]) y := by
  unfold nowO
  rw [idxO_snoc ht]
  by_cases hy : y = t
  · subst hy; simp
  · rw [if_neg hy, if_neg hy]; simp [hy]
theorem Sound.snoc {ever now : List Int} {t : Int} (hs : Sound ever now) (ht : t ∉ ever) : Sound (ever ++ [t]) (now ++ [t]) :=
  ⟨List.nodup_append.2 ⟨hs.nodup, by simp, fun a ha b hb => by simp at hb; subst hb; rintro rfl; exact ht ha⟩, hs.sub.append (List.Sublist.refl _)⟩

set_option maxRecDepth 100000 in
theorem sOpen_ok {t : Int} {r : List Int} (h : DeskAt w d v n e most (t :: r) ever now) (hm : (now.length : Int) < most) (hl : r.length ≤ 100000) (hle : ever.length ≤ 1000000) (ht : t ∉ ever) (ht0 : (t == 0) = false) : Calls Try.prog 42 #[.pointer (some ⟨d, 0, none⟩)] w fun x w' => x = .returned (.tuple #[.int .u64 t, .int .i64 0]) ∧ Turned w d v n e most r (ever ++ [t]) (now ++ [t]) w' := by
  obtain ⟨g, c, rfl, _, hg⟩ := own_pos h.own (by simp)
  obtain ⟨q, hq⟩ : ∃ q, r.length = q := ⟨_, rfl⟩
  simp only [List.length_cons, hq] at h hl hg ⊢
  have HQ := hide hq
  clear hq
  have c0 : w.cell? ⟨d, 0, none⟩ = some (.int .i64 most) := h.blk.cell 0
  have c2 : w.cell? ⟨d, 2, none⟩ = some (.map (some n)) := h.blk.cell 2
  have hlen := fun nq ty => MapIs.len_run (h.mnow.drewN nq) ty
  have H := hide h
  have HT := hide ht
  clear h ht
  go_enter Try.func42, Try.ntmps42
  go_wp2_with fail
  go_quiet (fail)
  obtain ⟨w1, hw1⟩ : ∃ w1, w1 = w.drewN nq := ⟨_, rfl⟩
  rw [← hw1]
  have hx1 : Ext w w1 := by rw [hw1]; exact (Ext.refl w).drewN _
  have H1 := hide (H.out.ext hx1)
  have d1 : w1.cell? ⟨d, 1, none⟩ = some (.slice (some ⟨g, 0, none⟩) (q + 1) c) := H1.out.blk.cell 1
  have d2 : w1.cell? ⟨g, 0, none⟩ = some (.int .u64 t) := own_head H1.out.own
  clear c0 c2 hlen hw1 hg
  go_upto_region 9 with (go_at_call 89; refine (delete_first g c q t r _ HQ.out H1.out.own hl).mono ?_; rintro x w2 ⟨rfl, o2, t2⟩; have b2 := H1.out.blk.touch t2 (fun x => H1.out.vd (by rw [x]; rfl)); have e1 : w2.cell? ⟨d, 1, none⟩ = some (.slice (some ⟨g, 0, none⟩) (q + 1) c) := b2.cell 1; have f1 : w2.frozen? ⟨d, 1, none⟩ = false := b2.frozen 1; have O2 := hide o2; have T2 := hide t2; clear o2 t2 b2)
  have tg : Touch (fun k => (Value.slice (some ⟨g, 0, none⟩) (q + 1) c).ownBlock = some k) w1 w2 := T2.out.mono (fun k _ hk => by rw [hk]; rfl)
  obtain ⟨w3, hw3⟩ : ∃ w3, w3 = w2.setCell ⟨d, 1, none⟩ (.slice (some ⟨g, 0, none⟩) q c) := ⟨_, rfl⟩
  have D3 := desk_row2 H1.out O2.out tg (fun k hk => .inl hk) (wfTail H1.out.wf).2
  rw [← hw3] at D3 ⊢
  have H3 := hide D3.1
  have T3 := hide D3.2
  have HU := hide (wfTail H1.out.wf).1
  clear D3 hw3 e1 f1 O2 T2 tg d1 d2
  have e3 : w3.cell? ⟨d, 3, none⟩ = some (.map (some e)) := H3.out.blk.cell 3
  have hb := hide (show (idxO ever t).isSome = false by rw [idxO_some]; simpa using HT.out)
  have e4 : w3.cell? ⟨d, 2, none⟩ = some (.map (some n)) := H3.out.blk.cell 2
  have hnl : now.length ≤ 1000000 := Nat.le_trans H3.out.sound.sub.length_le hle
  have hi64 : I64 (ever.length : Int) := by
    unfold I64
    have hmin : IntKind.i64.min = -9223372036854775808 := rfl
    have hmax : IntKind.i64.max = 9223372036854775807 := rfl
    simp only [Lit.wf, Bool.and_eq_true, decide_eq_true_eq]
    omega
  obtain ⟨st, w4, w5, r4, t4, r5, m5, t5⟩ := H3.out.mnow.drew.entry HU.out hi64 hnl (f := nowO ever now) (by unfold nowO; rw [if_neg (fun hx => HT.out (H3.out.sound.mem t hx))])
  have me5 := H3.out.mever.drew.touch t5 (fun x => H3.out.ne x.symm)
  obtain ⟨st', w6, w7, r6, t6, r7, m7, t7⟩ := me5.entry HU.out hi64 hle (f := idxO ever) (idxO_none HT.out)
  have M5 := hide m5
  have T5 := hide t5
  have M7 := hide m7
  have T7 := hide t7
  clear m5 t5 m7 t7 t4 t6 me5 hi64
  go_upto_region 13 with (first
    | (at_lookup; refine wpList_look _ rfl _ _ rfl e _ _ rfl H3.out.mever t rfl HU.out ?_; intro cc hc; rw [hb.out]; clear hc)
    | (at_len; refine wpList_lenm _ rfl _ rfl e _ _ rfl H3.out.mever ?_))
  go_region
  all_goals
    go_wp2
    go_ret2
    refine ⟨rfl, Turned.pre ⟨.slice (some ⟨g, 0, none⟩) q c, ?_, ?_, fun k hk => .inl hk⟩ hx1⟩
    · have h := H3.out
      have t57 : Touch (fun k => k = n ∨ k = e) w3 w7 := (((Touch.refl _ w3).drew).trans (T5.out.mono (fun k _ hk => .inl hk))).trans (T7.out.mono (fun k _ hk => .inr hk))
      refine ⟨h.blk.touch t57 ?_, h.own.touch t57 ?_, h.wf, ?_, ?_, h.ne, h.sound.snoc HT.out⟩
      · rintro (hx | hx)
        · exact h.dn hx
        · exact h.de hx
      · rintro k hk (hx | hx)
        · subst hx; exact h.vn hk
        · subst hx; exact h.ve hk
      · have := (M5.out.touch T7.out (fun x => h.ne x)).congr (nowO_snoc HT.out)
        simpa using this
      · have := M7.out.congr (fun y => (idxO_snoc HT.out y).symm)
        simpa using this
    · exact T3.out.trans ((((Touch.refl _ w3).drew).trans (T5.out.mono (fun k _ hk => .inr (.inr (.inl hk))))).trans (T7.out.mono (fun k _ hk => .inr (.inr (.inr hk)))))
end
end Go.Proofs.Ytifbmapianddcaa
