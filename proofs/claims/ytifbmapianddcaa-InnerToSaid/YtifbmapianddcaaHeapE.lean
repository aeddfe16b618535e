/- Walks of the heap's New, Len, Push. -/
import Derived.Test.YtifbmapianddcaaHeapD
import Derived.Test.YtifbmapianddcaaStepB
import Derived.Deep.Cut
namespace Go.Proofs.Ytifbmapianddcaa
open Go.RowKit

/-- A heap whose blocks all lie in S. -/
def HeapIs (S : Nat → Prop) (w : World) (h : Nat) (l : List Thing) : Prop := ∃ v mb, HeapAt w h v mb l ∧ HeapOk l ∧ ∀ k, HFoot h v mb k → S k

theorem HeapIs.touch {S S' : Nat → Prop} {w w' : World} {h : Nat} {l : List Thing} (H : HeapIs S w h l) (t : Touch S' w w') (hs : ∀ k, S k → ¬ S' k) : HeapIs S w' h l := by
  obtain ⟨v, mb, h1, h2, h3⟩ := H
  exact ⟨v, mb, h1.touch t (fun k hk => hs k (h3 k hk)), h2, h3⟩
theorem HeapIs.ext {S : Nat → Prop} {w w' : World} {h : Nat} {l : List Thing} (H : HeapIs S w h l) (t : Ext w w') : HeapIs S w' h l := H.touch (S' := fun _ => False) (Touch.of_ext t) (fun _ _ x => x)
theorem HeapIs.mono {S S' : Nat → Prop} {w : World} {h : Nat} {l : List Thing} (H : HeapIs S w h l) (hs : ∀ k, k < w.heap.size → S k → S' k) : HeapIs S' w h l := by
  obtain ⟨v, mb, h1, h2, h3⟩ := H
  exact ⟨v, mb, h1, h2, fun k hk => hs k (h1.foot_lt hk) (h3 k hk)⟩

theorem Touch.after {S S' : Nat → Prop} {a b c : World} (h : Touch S a b) (k : Touch S' b c) (hs : ∀ k, k < a.heap.size → S' k → S k) : Touch S a c :=
  ⟨k.os.trans h.os, k.tape.trans h.tape, k.output.trans h.output, Nat.le_trans h.size k.size, fun i hi hn => (k.block i (Nat.lt_of_lt_of_le hi h.size) (fun hS => hn (hs i hi hS))).trans (h.block i hi hn)⟩

theorem hNew_any (w : World) : Calls Try.prog 67 #[] w fun e w' => ∃ h, e = .returned (.pointer (some ⟨h, 0, none⟩)) ∧ w.heap.size ≤ h ∧ Ext w w' ∧ HeapIs (fun k => w.heap.size ≤ k) w' h [] := by
  have hmm := @run_makeMap Try.prog
  go_enter Try.func67, Try.ntmps67
  go_wp2
  go_ret
  refine ⟨_, rfl, ?_, (by (with_reducible (repeat' (first | exact Ext.refl _ | assumption | refine Ext.drew ?_ | refine Ext.drewN ?_ _ | refine Ext.alloc ?_ _ | refine Ext.setCell ?_ ?_ _ | refine Ext.trans ?_ (by assumption)))); all_goals (first | (simp; done) | (simp; omega))), ?_⟩
  · simp
  · refine ⟨.slice none 0 0, w.heap.size, ⟨?_, Own.nil _ _ _ _, ?_, List.nodup_nil, (fun x hx => by cases hx)⟩, (fun j _ h => by simp at h), ?_⟩
    · have := Blk.new (w.alloc (.map #[] 0)) 180 #[.slice none 0 0, .map (some w.heap.size)]
      simpa using this
    · exact ((MapIn.made (P := Try.prog) (K := KM) w).ext ((Ext.refl _).alloc _)).congr (fun x => rfl)
    · rintro k (rfl | hk | rfl)
      · simp
      · simp [Value.ownBlock] at hk
      · exact Nat.le_refl _

theorem hLen_any {w : World} {h mb : Nat} {v : Value} {l : List Thing} (H : HeapAt w h v mb l) : Calls Try.prog 116 #[.pointer (some ⟨h, 0, none⟩)] w fun e w' => e = .returned (.int .i64 l.length) ∧ w = w' := by
  obtain ⟨a, c, rfl⟩ := H.own.slice
  have c0 : w.cell? ⟨h, 0, none⟩ = some (.slice a l.length c) := H.blk.cell 0
  clear H
  go_enter Try.func116, Try.ntmps116
  go_wp2
  go_ret
  exact ⟨rfl, rfl⟩

theorem HeapAt.pushed {w w9 : World} {h mb g c : Nat} {v : Value} {l : List Thing} (H : HeapAt w h v mb l) {t : Thing} (hid : t.1 ∉ ids l) (ht : Fits64 .i64 t.1) (o : Own thingE w9 0 222 (.slice (some ⟨g, 0, none⟩) (l.length + 1) c) (l ++ [t])) (T : Touch (fun k => v.ownBlock = some k) w w9) (hg : v.ownBlock = some g ∨ w.heap.size ≤ g) :
    Blk (w9.setCell ⟨h, 0, none⟩ (.slice (some ⟨g, 0, none⟩) (l.length + 1) c)) h 180 #[.slice (some ⟨g, 0, none⟩) (l.length + 1) c, .map (some mb)] ∧
    Own thingE (w9.setCell ⟨h, 0, none⟩ (.slice (some ⟨g, 0, none⟩) (l.length + 1) c)) 0 222 (.slice (some ⟨g, 0, none⟩) (l.length + 1) c) (l ++ [t]) ∧
    MapIn Try.prog KM (w9.setCell ⟨h, 0, none⟩ (.slice (some ⟨g, 0, none⟩) (l.length + 1) c)) mb (posO (ids l)) l.length ∧
    g ≠ h ∧ g ≠ mb ∧ Touch (HFoot h v mb) w (w9.setCell ⟨h, 0, none⟩ (.slice (some ⟨g, 0, none⟩) (l.length + 1) c)) := by
  have b9 := H.blk.touch T H.vh
  have gh : g ≠ h := by
    rintro rfl
    rcases hg with hg | hg
    · exact H.vh hg
    · have := H.blk.lt; omega
  have gm : g ≠ mb := by
    rintro rfl
    rcases hg with hg | hg
    · exact H.vm hg
    · have := H.map.lt; omega
  have ts : Touch (fun k => k = h) w9 (w9.setCell ⟨h, 0, none⟩ (.slice (some ⟨g, 0, none⟩) (l.length + 1) c)) := (Touch.refl (fun k => k = h) w9).setCell (p := ⟨h, 0, none⟩) (.inl rfl) _
  refine ⟨by simpa using b9.set_ 0 (.slice (some ⟨g, 0, none⟩) (l.length + 1) c), o.touch ts (fun k hk => by simp only [Value.ownBlock, Option.some.injEq] at hk; subst hk; exact gh), (H.map.touch T H.vm).touch ts (fun e => H.hm e.symm), gh, gm, ?_⟩
  exact (T.mono (fun k _ hk => .inr (.inl hk))).trans (ts.mono (fun k _ hk => .inl hk))

theorem pos_snoc {l : List Thing} {t : Thing} (hn : (ids l).Nodup) (ht : t.1 ∉ ids l) (x : Int) : upd (posO (ids l)) t.1 (l.length : Int) x = posO (ids (l ++ [t])) x := by
  have e : ids (l ++ [t]) = ids l ++ [t.1] := by simp [ids]
  refine posO_ext (f := upd (posO (ids l)) t.1 (l.length : Int)) ?_ (fun i y hy => ?_) (fun y hy => ?_) x
  · rw [e]
    exact List.nodup_append.2 ⟨hn, by simp, fun a ha b hb => by simp at hb; subst hb; rintro rfl; exact ht ha⟩
  · rw [e] at hy
    unfold upd
    by_cases hi : i < (ids l).length
    · rw [List.getElem?_append_left hi] at hy
      rw [if_neg (by rintro rfl; exact ht (List.mem_of_getElem? hy))]
      exact posO_at hn hy
    · rw [List.getElem?_append_right (by omega)] at hy
      obtain ⟨h1, h2⟩ := List.getElem?_eq_some_iff.1 hy
      simp at h1 h2
      rw [if_pos h2.symm]
      rw [ids_len] at h1 hi
      congr 1
      omega
  · rw [e] at hy
    simp at hy
    unfold upd
    rw [if_neg hy.2]
    exact posO_none hy.1

set_option maxRecDepth 100000 in
set_option maxHeartbeats 2000000 in
theorem hPush_at {w : World} {h mb : Nat} {v : Value} {l : List Thing} (H : HeapAt w h v mb l) (hok : HeapOk l) (hl : l.length ≤ 100000) (t : Thing) (ht : t.1 ∉ ids l) (hf : Fits64 .i64 t.1) :
    Calls Try.prog 113 #[.pointer (some ⟨h, 0, none⟩), .int .i64 t.1, keyV t.2] w fun e w' => e = .returned (.int .i64 0) ∧ ∃ v' l', HeapAt w' h v' mb l' ∧ HeapOk l' ∧ l'.Perm (t :: l) ∧ Touch (HFoot h v mb) w w' ∧ ∀ k, v'.ownBlock = some k → v.ownBlock = some k ∨ w.heap.size ≤ k := by
  obtain ⟨a, c, rfl⟩ := H.own.slice
  have c0 : w.cell? ⟨h, 0, none⟩ = some (.slice a l.length c) := H.blk.cell 0
  have c1 : w.cell? ⟨h, 1, none⟩ = some (.map (some mb)) := H.blk.cell 1
  have HH := hide H
  have HO := hide hok
  have HT := hide ht
  have HF := hide hf
  have HN := hide (show (posO (ids l) t.1).isSome = false by rw [posO_some]; simpa using ht)
  have zh := H.blk.lt
  obtain ⟨id, ⟨k1, k2⟩, k3, k4⟩ := t
  unfold keyV
  simp only at HT HF HN ⊢
  clear H hok ht hf
  go_enter Try.func113, Try.ntmps113
  go_upto_region 7 with (at_lookup; refine wpList_lookG _ KM_ok rfl _ _ rfl mb _ _ rfl (HH.out.map.ext (by (with_reducible (repeat' (first | exact Ext.refl _ | assumption | refine Ext.drew ?_ | refine Ext.drewN ?_ _ | refine Ext.alloc ?_ _ | refine Ext.setCell ?_ ?_ _ | refine Ext.trans ?_ (by assumption)))); all_goals (first | (simp; done) | (simp; omega)))) _ rfl HF.out ?_; intro cc hc; rw [HN.out]; clear hc)
  obtain ⟨w1, hw1⟩ : ∃ w1, w1 = w.alloc (.cells #[.int .u64 k1, .int .u64 k2, .int .i64 k3, .int .i64 k4] 185) := ⟨_, rfl⟩
  have hx1 : Ext w w1 := by rw [hw1]; exact (by (with_reducible (repeat' (first | exact Ext.refl _ | assumption | refine Ext.drew ?_ | refine Ext.drewN ?_ _ | refine Ext.alloc ?_ _ | refine Ext.setCell ?_ ?_ _ | refine Ext.trans ?_ (by assumption)))); all_goals (first | (simp; done) | (simp; omega)))
  have q0 : w1.cell? ⟨w.heap.size, 0, none⟩ = some (.int .u64 k1) := by rw [hw1]; simp [go_sem]
  have q1 : w1.cell? ⟨w.heap.size, 1, none⟩ = some (.int .u64 k2) := by rw [hw1]; simp [go_sem]
  have q2 : w1.cell? ⟨w.heap.size, 2, none⟩ = some (.int .i64 k3) := by rw [hw1]; simp [go_sem]
  have q3 : w1.cell? ⟨w.heap.size, 3, none⟩ = some (.int .i64 k4) := by rw [hw1]; simp [go_sem]
  have H1 := hide (HH.out.ext hx1)
  have d0 : w1.cell? ⟨h, 0, none⟩ = some (.slice a l.length c) := H1.out.blk.cell 0
  have d1 : w1.frozen? ⟨h, 0, none⟩ = false := H1.out.blk.frozen 0
  have zh1 : h < w1.heap.size := H1.out.blk.lt
  have zk1 : w.heap.size < w1.heap.size := by rw [hw1]; simp
  rw [← hw1]
  have HX1 := hide hx1
  clear hw1 hx1 c0 c1
  go_region_law (refine step_app_drew thingE T_things rfl _ _ rfl 0 _ _ l rfl H1.out.own (id, ((k1, k2), (k3, k4))) _ _ rfl _ rfl rfl (by omega) (by omega) (by omega) ?_; intro g9 c9 w9 o9 t9 l9; have b9 := H1.out.blk.touch t9 H1.out.vh; have e9 : w9.cell? ⟨h, 0, none⟩ = some (.slice a l.length c) := b9.cell 0; have f9 : w9.frozen? ⟨h, 0, none⟩ = false := b9.frozen 0; have P9 := hide (H1.out.pushed HT.out HF.out o9 t9 l9); have L9 := hide l9; clear o9 t9 l9 b9)
  all_goals
    obtain ⟨w2, hw2⟩ : ∃ w2, w2 = w9.setCell ⟨h, 0, none⟩ (.slice (some ⟨g9, 0, none⟩) (l.length + 1) c9) := ⟨_, rfl⟩
    rw [← hw2] at P9 ⊢
    clear hw2 e9 f9 q0 q1 q2 q3 d0 d1
    have m0 : w2.cell? ⟨h, 1, none⟩ = some (.map (some mb)) := P9.out.1.cell 1
    go_upto_region 9 with (at_mapUpdate; refine wpList_putG _ KM_ok rfl _ _ _ rfl mb _ _ rfl P9.out.2.2.1 _ rfl HF.out _ rfl (fits_nat (by omega)) (by omega) ?_; intro w3 m3 t3; have M3 := hide m3; have T3 := hide t3; clear m3 t3)
    obtain ⟨p1, p2, p3, p4, p5, p6⟩ := P9.out
    have hnd : (ids (l ++ [(id, ((k1, k2), (k3, k4)))])).Nodup := by
      have e : ids (l ++ [(id, ((k1, k2), (k3, k4)))]) = ids l ++ [id] := by simp [ids]
      rw [e]
      exact List.nodup_append.2 ⟨HH.out.nodup, by simp, fun a ha b hb => by simp at hb; subst hb; rintro rfl; exact HT.out ha⟩
    have hM : MapIn Try.prog KM w3 mb (posO (ids (l ++ [(id, ((k1, k2), (k3, k4)))]))) (l.length + 1) := by
      have := M3.out.congr (pos_snoc (t := (id, ((k1, k2), (k3, k4)))) HH.out.nodup HT.out)
      rw [HN.out] at this
      simpa using this
    have H3 := hide (show HeapAt w3 h (.slice (some ⟨g9, 0, none⟩) (l.length + 1) c9) mb (l ++ [(id, ((k1, k2), (k3, k4)))]) from ⟨p1.touch T3.out HH.out.hm, p2.touch T3.out (fun k hk => by simp only [Value.ownBlock, Option.some.injEq] at hk; subst hk; exact p5), by simpa using hM, hnd, fun t ht => by
      rcases List.mem_append.1 ht with ht | ht
      · exact HH.out.wf t ht
      · simp at ht; subst ht; exact HF.out⟩)
    have P6 := hide p6
    have hr := hide (push_rise HO.out (id, ((k1, k2), (k3, k4))))
    clear p1 p2 p3 p4 p5 p6 hnd hM P9 m0
    go_wp2_with (go_at_call 154; refine (hRise_any H3.out (by simp) (by simp; omega) hr.out).mono ?_; rintro e w4 ⟨rfl, h4⟩; have H4 := hide h4; clear h4)
    go_ret
    obtain ⟨l', a1, a2, a3, a4⟩ := H4.out
    refine ⟨rfl, _, l', a1, a4, a3.trans List.perm_append_comm, ?_, ?_⟩
    · refine (((Touch.of_ext HX1.out).trans (P6.out)).trans (T3.out.mono (fun k _ hk => .inr (.inr hk)))).after a2 ?_
      rintro k hk (rfl | hk2 | rfl)
      · exact .inl rfl
      · simp only [Value.ownBlock, Option.some.injEq] at hk2
        subst hk2
        rcases L9.out with h9 | h9
        · exact .inr (.inl h9)
        · have := HX1.out.size; omega
      · exact .inr (.inr rfl)
    · intro k hk
      simp only [Value.ownBlock, Option.some.injEq] at hk
      subst hk
      rcases L9.out with h9 | h9
      · exact .inl h9
      · exact .inr (Nat.le_trans HX1.out.size h9)
end Go.Proofs.Ytifbmapianddcaa
