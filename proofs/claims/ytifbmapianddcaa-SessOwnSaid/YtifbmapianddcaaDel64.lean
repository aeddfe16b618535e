/- The walk of slices.Delete(s, 0, 1) on a row of the call's own. -/
import Derived.Test.YtifbmapianddcaaSessA
import Derived.Deep.RegionLaw
import Derived.Lib.SliceRun
set_option linter.all false
set_option linter.unusedVariables false
set_option linter.unusedSimpArgs false
namespace Go.Proofs.Ytifbmapianddcaa
open Go.RowKit

theorem heap_setCells_at (b : Nat) (t : TypeId) : ∀ (vs : List Value) (o : Nat) (w : World) (cur : Array Value), w.heap[b]? = some (.cells cur t (0, 0)) → o + vs.length ≤ cur.size →
    ∃ cur' : Array Value, (w.setCells b o vs).heap[b]? = some (.cells cur' t (0, 0)) ∧ cur'.size = cur.size ∧ cur'.toList = cur.toList.take o ++ vs ++ cur.toList.drop (o + vs.length)
  | [], o, w, cur, h, _ => ⟨cur, h, rfl, by simp⟩
  | v :: vs, o, w, cur, h, hl => by
    simp only [List.length_cons] at hl
    have h1 : (w.setCell ⟨b, o, none⟩ v).heap[b]? = some (.cells (cur.setIfInBounds o v) t (0, 0)) := Blk.set_ (w := w) h o v
    obtain ⟨cur', h2, h3, h4⟩ := heap_setCells_at b t vs (o + 1) _ _ h1 (by simp; omega)
    refine ⟨cur', h2, by simpa using h3, ?_⟩
    rw [h4]
    have hlt : o < cur.toList.length := by simp; omega
    simp only [Array.toList_setIfInBounds, List.length_cons]
    rw [List.take_add_one, List.getElem?_set_self (by simpa using hlt), List.take_set_of_le (Nat.le_refl _), List.drop_set_of_lt (by omega), show o + 1 + vs.length = o + (vs.length + 1) by omega]
    simp
theorem touch_setCells (b : Nat) : ∀ (vs : List Value) (o : Nat) {a w : World} {S : Nat → Prop}, Touch S a w → S b → Touch S a (w.setCells b o vs)
  | [], _, _, _, _, h, _ => h
  | v :: vs, o, _, _, _, h, hb => touch_setCells b vs (o + 1) (h.setCell (.inl hb) v) hb

theorem u64_flat (l : List Int) : l.flatMap u64E.cells = l.map (Value.int .u64) := by
  induction l with
  | nil => rfl
  | cons a l ih => rw [List.flatMap_cons, ih]; rfl
def Deleted (w : World) (g : Nat) (n c : Nat) (r : List Int) (e : Ending) (w' : World) : Prop := e = .returned (.slice (some ⟨g, 0, none⟩) n c) ∧ Own u64E w' 0 38 (.slice (some ⟨g, 0, none⟩) n c) r ∧ Touch (fun k => k = g) w w'

set_option maxHeartbeats 1000000 in
theorem delete_first (g c n : Nat) (x : Int) (r : List Int) (w : World) (hrn : r.length = n) (h : Own u64E w 0 38 (.slice (some ⟨g, 0, none⟩) (n + 1) c) (x :: r)) (hr : n ≤ 100000) :
    Calls Try.prog 89 #[.slice (some ⟨g, 0, none⟩) (n + 1) c, .int .i64 0, .int .i64 1] w (Deleted w g n c r) := by
  have h2 := h.2
  clear h
  rcases h2 with ⟨h3, _⟩ | ⟨g', cap, cur, hv, _, hg, hn, hm, hs, ht⟩
  · cases h3
  simp only [Value.slice.injEq, Option.some.injEq, Addr.mk.injEq, and_true] at hv
  obtain ⟨rfl, hq0, rfl⟩ := hv
  clear hq0
  simp only [List.length_cons, hrn] at hn hs ht
  obtain ⟨i0, hi, hz0, hz1, hz2⟩ := info_parts T_u64s.info
  have hs' : cur.size = c := by simpa [u64E] using hs
  have ht' : cur.toList.take (n + 1) = (x :: r).map (Value.int .u64) := by rw [← u64_flat, ← ht]; simp [u64E]
  have hn' : n + 1 ≤ c := by simpa using hn
  have hc1 : ∀ j, j < c → (w.cell? ⟨g, j, none⟩).isSome = true ∧ w.frozen? ⟨g, j, none⟩ = false := by
    intro j hj
    have hcell := (Blk.cell (w := w) hg j)
    refine ⟨?_, Blk.frozen (w := w) hg j⟩
    rw [hcell, Array.getElem?_eq_getElem (by omega)]; rfl
  have hm' : c ≤ 9223372036854775807 := hm
  clear hs ht hn hm
  obtain ⟨news, hnews⟩ : ∃ news, news = r.map (Value.int .u64) := ⟨_, rfl⟩
  have hlen : news.length = n := by rw [hnews]; simp [hrn]
  -- where s[1:] lies, and what it reads
  obtain ⟨A, hA, hsrc⟩ : ∃ A : Addr, (if c = 1 then some (⟨g, 0, none⟩ : Addr) else some ⟨g, 1, none⟩) = some A ∧ Hid (∀ t u, news[t]? = some u → w.drew.cell? (A.add t) = some u) := by
    by_cases h : c = 1
    · refine ⟨⟨g, 0, none⟩, by simp [h], fun t u hu => ?_⟩
      have h0 : news.length = 0 := by omega
      rw [List.length_eq_zero_iff.1 h0] at hu
      simp at hu
    · refine ⟨⟨g, 1, none⟩, by simp [h], fun t u hu => ?_⟩
      rw [Addr.add_lit]
      show w.cell? _ = _
      rw [Blk.cell (w := w) hg]
      have hlt := (List.getElem?_eq_some_iff.1 hu).1
      have e1 : (cur.toList.take (n + 1))[1 + t]? = some u := by rw [ht', List.map_cons, Nat.add_comm, List.getElem?_cons_succ, ← hnews]; exact hu
      rw [List.getElem?_take_of_lt (by omega)] at e1
      simpa using e1
  have s1 : Hid (news.length = n * 1) := by rw [Nat.mul_one]; exact hlen
  have s2 : Hid (∀ u ∈ news, u.oneCell' = true) := by
    intro u hu
    rw [hnews] at hu
    obtain ⟨y, _, rfl⟩ := List.mem_map.1 hu
    rfl
  have s3 : Hid (∀ t, t < news.length → (w.drew.cell? ⟨g, 0 + 0 * 1 + t, none⟩).isSome = true ∧ w.drew.frozen? ⟨g, 0 + 0 * 1 + t, none⟩ = false) := by
    intro t ht
    rw [show 0 + 0 * 1 + t = t by omega]
    exact hc1 t (by omega)
  obtain ⟨W1, hW1⟩ : ∃ W1, W1 = w.drew.setCells g (0 + 0 * 1) news := ⟨_, rfl⟩
  obtain ⟨cur1, k1, k2, k3⟩ := heap_setCells_at g 38 news (0 + 0 * 1) w.drew cur hg (by omega)
  rw [← hW1] at k1
  have hcl : ∀ ty, (Builtin.clear_ #[33] ty #[.slice (some ⟨g, n, none⟩) 1 (c - n)]).run Try.prog W1 = .ok (.tuple #[]) (W1.setCells g n [.int .u64 0]) := by
    intro ty
    refine Lib.run_clear_slice W1 _ _ ty _ Try.underlying33 (fun w => by kernel_rfl) rfl rfl g n 1 _ (by omega) (fun j hj => ?_) (fun j hj => ?_)
    · rw [Blk.cell (w := W1) k1, Array.getElem?_eq_getElem (by omega)]; rfl
    · exact Blk.frozen (w := W1) k1 _
  obtain ⟨cur2, m1, m2, m3⟩ := heap_setCells_at g 38 [.int .u64 0] n W1 cur1 k1 (by simp; omega)
  have fin : Deleted w g n c r (.returned (.slice (some ⟨g, 0, none⟩) n c)) (W1.setCells g n [.int .u64 0]) := by
    refine ⟨rfl, ⟨by rw [u64_flat]; simp [u64E], .inr ⟨g, c, cur2, by rw [hrn], Nat.zero_le _, m1, by omega, hm', by simp only [u64E]; omega, ?_⟩⟩, ?_⟩
    · rw [u64_flat, m3, k3]
      simp only [u64E, Nat.mul_one, Nat.zero_add, List.take_zero, List.nil_append]
      rw [← hnews]
      have e2 : (news ++ cur.toList.drop news.length).take n = news := by rw [← hlen]; simp
      rw [e2, hrn, ← hlen]
      simp
    · rw [hW1]
      exact touch_setCells _ _ _ (touch_setCells _ _ _ (Touch.refl _ w).drew rfl) rfl
  have FIN := hide fin
  have HW := hide hW1
  clear fin hW1 k1 k2 k3 m1 m2 m3 hc1 ht' hs' hg hnews hlen
  clear hrn
  have hsub : n + 1 - n = 1 := by omega
  have hq1 : (0 : Int) ≤ (n : Int) + 1 := by omega
  have hq2 : (n : Int) + 1 ≤ (c : Int) := by omega
  have hq3 : (1 : Int) ≤ (n : Int) + 1 := by omega
  have hq4 : (n : Int) ≤ (n : Int) + 1 := by omega
  have h1c : 1 ≤ c := by omega
  have hnc : n ≤ c := by omega
  have hsp : ¬ c = n := by omega
  go_enter Try.func89, Try.ntmps89
  go_wp2_with fail
  go_region_law (refine step_append_room rfl (.tmp 22) (.tmp 25) 33 rfl 38 i0 1 Try.underlying33 hi hz1 g 0 0 c (by simp [Act.eval, Act.put]) A n (c - 1) news (by simp [Act.eval, Act.put]) s1.out hsrc.out s2.out (by omega) s3.out ?_; rw [← HW.out])
  go_wp2
  go_ret
  exact FIN.out
end Go.Proofs.Ytifbmapianddcaa
