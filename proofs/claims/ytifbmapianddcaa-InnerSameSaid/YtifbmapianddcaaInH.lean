/- Rows that are compared, of layer 13. -/
import Derived.Test.YtifbmapianddcaaInG
namespace Go.Proofs.Ytifbmapianddcaa
open Go.RowKit

/-- A row of costs that is read. -/
def RowU (w : World) (a : Option Addr) (l : List Int) : Prop := 0 < l.length → ∃ b off, a = some ⟨b, off, none⟩ ∧ b < w.heap.size ∧ ∀ k (h : k < l.length), w.cell? ⟨b, off + k, none⟩ = some (.int .u64 l[k])
theorem RowU.ext {w w' : World} {a : Option Addr} {l : List Int} (h : RowU w a l) (e : Ext w w') : RowU w' a l := fun h0 => by
  obtain ⟨b, off, ha, hb, hc⟩ := h h0
  exact ⟨b, off, ha, Nat.lt_of_lt_of_le hb e.size, fun k hk => (e.cell (p := ⟨b, off + k, none⟩) hb).trans (hc k hk)⟩
theorem Reads.rowU {w : World} {a : Option Addr} {n c : Nat} {l : List Int} (h : Reads u64E w (.slice a n c) l) : n = l.length ∧ RowU w a l := by
  rcases h with ⟨hv, rfl⟩ | ⟨b, off, cap, hv, hb, hc⟩
  · injection hv with h1 h2 _
    exact ⟨h2, fun h => by simp at h⟩
  · injection hv with h1 h2 _
    refine ⟨h2, fun _ => ⟨b, off, h1, hb, fun k hk => ?_⟩⟩
    have := hc k l[k] (List.getElem?_eq_getElem hk) 0 (.int .u64 l[k]) rfl
    simpa [u64E] using this

set_option maxRecDepth 100000 in
theorem same13_any (a b : Option Addr) (l m : List Int) (c d : Nat) (w : World) (hl : l.length ≤ 1000000) (ha : RowU w a l) (hb : RowU w b m) :
    Calls Try.prog 35 #[.slice a l.length c, .slice b m.length d] w fun e w' => e = .returned (.bool (decide (l = m))) ∧ Ext w w' := by
  by_cases hlen : l.length = m.length
  · have HA := hide ha
    have HB := hide hb
    have HLM := hide hlen
    obtain ⟨n, hn⟩ : ∃ n, l.length = n := ⟨_, rfl⟩
    have HN := hide hn
    rw [← hlen, hn]
    rw [hn] at hl
    clear ha hb hlen hn
    go_enter Try.func35, Try.ntmps35
    go_wp2_with fail
    go_loopw [5] (fun i wr => ∃ k : Nat, k ≤ n ∧ i = .int .i64 k ∧ l.take k = m.take k ∧ Ext w wr) (fun i _ => n - (intOf i).toNat)
    case atStart => exact ⟨0, Nat.zero_le _, rfl, rfl, (by (with_reducible (repeat' (first | exact Ext.refl _ | assumption | refine Ext.drew ?_ | refine Ext.drewN ?_ _ | refine Ext.alloc ?_ _ | refine Ext.setCell ?_ ?_ _ | refine Ext.trans ?_ (by assumption)))); all_goals (first | (simp; done) | (simp; omega)))⟩
    case round =>
      obtain ⟨k, hk, rfl, htk, hx⟩ := hrel
      have HT := hide htk
      have HX := hide hx
      clear htk hx
      by_cases hlt : k < n
      · have h1 : k < l.length := by rw [HN.out]; exact hlt
        have h2 : k < m.length := by rw [← HLM.out]; exact h1
        obtain ⟨ba, oa, rfl, za, ca⟩ := HA.out (by omega)
        obtain ⟨bb, ob, rfl, zb, cb⟩ := HB.out (by omega)
        have d0 := (HX.out.cell (p := ⟨ba, oa + k, none⟩) za).trans (ca k h1)
        have d1 := (HX.out.cell (p := ⟨bb, ob + k, none⟩) zb).trans (cb k h2)
        have z0 : ba < wr.heap.size := Nat.lt_of_lt_of_le za HX.out.size
        have z1 : bb < wr.heap.size := Nat.lt_of_lt_of_le zb HX.out.size
        have jk : (k : Int) < (n : Int) := by omega
        have e1 : l[k]? = some l[k] := List.getElem?_eq_getElem h1
        have e2 : m[k]? = some m[k] := List.getElem?_eq_getElem h2
        obtain ⟨x, hx⟩ : ∃ x, l[k] = x := ⟨_, rfl⟩
        obtain ⟨y, hy⟩ : ∃ y, m[k] = y := ⟨_, rfl⟩
        rw [hx] at d0 e1
        rw [hy] at d1 e2
        have E1 := hide e1
        have E2 := hide e2
        clear h1 h2 ca cb hx hy e1 e2
        by_cases hxy : x = y
        · have HN1 : Hid (l.take (k + 1) = m.take (k + 1)) := hide (by rw [List.take_add_one, List.take_add_one, E1.out, E2.out, HT.out, hxy])
          have hb1 : (x != y) = false := by simpa using hxy
          have hx := HX.out
          clear hxy
          go_wp2
          go_quiet (fail)
          go_wp2
          go_roundw
          case rel => exact ⟨k + 1, hlt, by go_num, HN1.out, (by (with_reducible (repeat' (first | exact Ext.refl _ | assumption | refine Ext.drew ?_ | refine Ext.drewN ?_ _ | refine Ext.alloc ?_ _ | refine Ext.setCell ?_ ?_ _ | refine Ext.trans ?_ (by assumption)))); all_goals (first | (simp; done) | (simp; omega)))⟩
          case measure => simp [intOf]; omega
        · have HF : Hid (decide (l = m) = false) := hide (by simp only [decide_eq_false_iff_not]; intro e; rw [e, E2.out] at E1; exact hxy (Option.some.inj E1.out).symm)
          have hb1 : (x != y) = true := by simpa using hxy
          clear hxy
          have hx := HX.out
          go_wp2
          go_quiet (fail)
          go_wp2
          go_ret
          exact ⟨by rw [HF.out] <;> rfl, (by (with_reducible (repeat' (first | exact Ext.refl _ | assumption | refine Ext.drew ?_ | refine Ext.drewN ?_ _ | refine Ext.alloc ?_ _ | refine Ext.setCell ?_ ?_ _ | refine Ext.trans ?_ (by assumption)))); all_goals (first | (simp; done) | (simp; omega)))⟩
      · obtain rfl : n = k := by omega
        have HF : Hid (decide (l = m) = true) := hide (by
          have h := HT.out
          rw [List.take_of_length_le (by rw [HN.out]; exact Nat.le_refl _), List.take_of_length_le (by rw [← HLM.out, HN.out]; exact Nat.le_refl _)] at h
          simpa using h)
        have hx := HX.out
        go_wp2
        go_ret
        exact ⟨by rw [HF.out] <;> rfl, (by (with_reducible (repeat' (first | exact Ext.refl _ | assumption | refine Ext.drew ?_ | refine Ext.drewN ?_ _ | refine Ext.alloc ?_ _ | refine Ext.setCell ?_ ?_ _ | refine Ext.trans ?_ (by assumption)))); all_goals (first | (simp; done) | (simp; omega)))⟩
  · have HF : Hid (decide (l = m) = false) := hide (by simp only [decide_eq_false_iff_not]; intro e; exact hlen (by rw [e]))
    have hb0 : ((l.length : Int) != (m.length : Int)) = true := by simp; omega
    obtain ⟨n, hn⟩ : ∃ n, l.length = n := ⟨_, rfl⟩
    obtain ⟨n2, hn2⟩ : ∃ n, m.length = n := ⟨_, rfl⟩
    have hb1 : (n != n2) = true := by simp; omega
    rw [hn, hn2] at hb0 ⊢
    clear ha hb hlen hn hn2
    go_enter Try.func35, Try.ntmps35
    go_wp2
    go_ret
    exact ⟨by rw [HF.out] <;> rfl, (by (with_reducible (repeat' (first | exact Ext.refl _ | assumption | refine Ext.drew ?_ | refine Ext.drewN ?_ _ | refine Ext.alloc ?_ _ | refine Ext.setCell ?_ ?_ _ | refine Ext.trans ?_ (by assumption)))); all_goals (first | (simp; done) | (simp; omega)))⟩

set_option maxRecDepth 100000 in
theorem equalU64_any (a b : Option Addr) (l m : List Int) (c d : Nat) (w : World) (hl : l.length ≤ 1000000) (ha : RowU w a l) (hb : RowU w b m) :
    Calls Try.prog 85 #[.slice a l.length c, .slice b m.length d] w fun e w' => e = .returned (.bool (decide (l = m))) ∧ Ext w w' := by
  by_cases hlen : l.length = m.length
  · have HA := hide ha
    have HB := hide hb
    have HLM := hide hlen
    obtain ⟨n, hn⟩ : ∃ n, l.length = n := ⟨_, rfl⟩
    have HN := hide hn
    rw [← hlen, hn]
    rw [hn] at hl
    clear ha hb hlen hn
    go_enter Try.func85, Try.ntmps85
    go_wp2_with fail
    go_loopw [13] (fun i wr => ∃ k : Nat, k ≤ n ∧ i = .int .i64 k ∧ l.take k = m.take k ∧ Ext w wr) (fun i _ => n - (intOf i).toNat)
    case atStart => exact ⟨0, Nat.zero_le _, rfl, rfl, (by (with_reducible (repeat' (first | exact Ext.refl _ | assumption | refine Ext.drew ?_ | refine Ext.drewN ?_ _ | refine Ext.alloc ?_ _ | refine Ext.setCell ?_ ?_ _ | refine Ext.trans ?_ (by assumption)))); all_goals (first | (simp; done) | (simp; omega)))⟩
    case round =>
      obtain ⟨k, hk, rfl, htk, hx⟩ := hrel
      have HT := hide htk
      have HX := hide hx
      clear htk hx
      by_cases hlt : k < n
      · have h1 : k < l.length := by rw [HN.out]; exact hlt
        have h2 : k < m.length := by rw [← HLM.out]; exact h1
        obtain ⟨ba, oa, rfl, za, ca⟩ := HA.out (by omega)
        obtain ⟨bb, ob, rfl, zb, cb⟩ := HB.out (by omega)
        have d0 := (HX.out.cell (p := ⟨ba, oa + k, none⟩) za).trans (ca k h1)
        have d1 := (HX.out.cell (p := ⟨bb, ob + k, none⟩) zb).trans (cb k h2)
        have z0 : ba < wr.heap.size := Nat.lt_of_lt_of_le za HX.out.size
        have z1 : bb < wr.heap.size := Nat.lt_of_lt_of_le zb HX.out.size
        have jk : (k : Int) < (n : Int) := by omega
        have e1 : l[k]? = some l[k] := List.getElem?_eq_getElem h1
        have e2 : m[k]? = some m[k] := List.getElem?_eq_getElem h2
        obtain ⟨x, hx⟩ : ∃ x, l[k] = x := ⟨_, rfl⟩
        obtain ⟨y, hy⟩ : ∃ y, m[k] = y := ⟨_, rfl⟩
        rw [hx] at d0 e1
        rw [hy] at d1 e2
        have E1 := hide e1
        have E2 := hide e2
        clear h1 h2 ca cb hx hy e1 e2
        by_cases hxy : x = y
        · have HN1 : Hid (l.take (k + 1) = m.take (k + 1)) := hide (by rw [List.take_add_one, List.take_add_one, E1.out, E2.out, HT.out, hxy])
          have hb1 : (x != y) = false := by simpa using hxy
          have hx := HX.out
          clear hxy
          go_wp2
          go_quiet (fail)
          go_wp2
          go_roundw
          case rel => exact ⟨k + 1, hlt, by go_num, HN1.out, (by (with_reducible (repeat' (first | exact Ext.refl _ | assumption | refine Ext.drew ?_ | refine Ext.drewN ?_ _ | refine Ext.alloc ?_ _ | refine Ext.setCell ?_ ?_ _ | refine Ext.trans ?_ (by assumption)))); all_goals (first | (simp; done) | (simp; omega)))⟩
          case measure => simp [intOf]; omega
        · have HF : Hid (decide (l = m) = false) := hide (by simp only [decide_eq_false_iff_not]; intro e; rw [e, E2.out] at E1; exact hxy (Option.some.inj E1.out).symm)
          have hb1 : (x != y) = true := by simpa using hxy
          clear hxy
          have hx := HX.out
          go_wp2
          go_quiet (fail)
          go_wp2
          go_ret
          exact ⟨by rw [HF.out] <;> rfl, (by (with_reducible (repeat' (first | exact Ext.refl _ | assumption | refine Ext.drew ?_ | refine Ext.drewN ?_ _ | refine Ext.alloc ?_ _ | refine Ext.setCell ?_ ?_ _ | refine Ext.trans ?_ (by assumption)))); all_goals (first | (simp; done) | (simp; omega)))⟩
      · obtain rfl : n = k := by omega
        have HF : Hid (decide (l = m) = true) := hide (by
          have h := HT.out
          rw [List.take_of_length_le (by rw [HN.out]; exact Nat.le_refl _), List.take_of_length_le (by rw [← HLM.out, HN.out]; exact Nat.le_refl _)] at h
          simpa using h)
        have hx := HX.out
        go_wp2
        go_ret
        exact ⟨by rw [HF.out] <;> rfl, (by (with_reducible (repeat' (first | exact Ext.refl _ | assumption | refine Ext.drew ?_ | refine Ext.drewN ?_ _ | refine Ext.alloc ?_ _ | refine Ext.setCell ?_ ?_ _ | refine Ext.trans ?_ (by assumption)))); all_goals (first | (simp; done) | (simp; omega)))⟩
  · have HF : Hid (decide (l = m) = false) := hide (by simp only [decide_eq_false_iff_not]; intro e; exact hlen (by rw [e]))
    have hb0 : ((l.length : Int) != (m.length : Int)) = true := by simp; omega
    obtain ⟨n, hn⟩ : ∃ n, l.length = n := ⟨_, rfl⟩
    obtain ⟨n2, hn2⟩ : ∃ n, m.length = n := ⟨_, rfl⟩
    have hb1 : (n != n2) = true := by simp; omega
    rw [hn, hn2] at hb0 ⊢
    clear ha hb hlen hn hn2
    go_enter Try.func85, Try.ntmps85
    go_wp2
    go_ret
    exact ⟨by rw [HF.out] <;> rfl, (by (with_reducible (repeat' (first | exact Ext.refl _ | assumption | refine Ext.drew ?_ | refine Ext.drewN ?_ _ | refine Ext.alloc ?_ _ | refine Ext.setCell ?_ ?_ _ | refine Ext.trans ?_ (by assumption)))); all_goals (first | (simp; done) | (simp; omega)))⟩
end Go.Proofs.Ytifbmapianddcaa
