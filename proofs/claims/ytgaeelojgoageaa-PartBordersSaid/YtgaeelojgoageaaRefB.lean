/- Walks of the laws' comparisons of lists. -/
import Derived.Test.YtgaeelojgoageaaPartE
namespace Go.Proofs.Ytgaeelojgoageaa
open Go.RowKit

theorem ints11_ne (a b : Option Addr) (n m c d : Nat) (w : World) (h : (decide ((n : Int) = m)) = false) (_hn : n ≤ 1000000) (_hm : m ≤ 1000000) :
    Calls Try.prog 29 #[.slice a n c, .slice b m d] w fun e w' => e = .returned (.bool false) ∧ Ext w w' := by
  have h' : ((n : Int) != m) = true := by simpa using h
  go_enter Try.func29, Try.ntmps29
  go_wp2
  go_ret
  exact ⟨rfl, (by (with_reducible (repeat' (first | exact Ext.refl _ | assumption | refine Ext.drew ?_ | refine Ext.drewN ?_ _ | refine Ext.alloc ?_ _ | refine Ext.setCell ?_ ?_ _ | refine Ext.trans ?_ (by assumption)))); all_goals (first | (simp; done) | (simp; omega)))⟩

theorem ints11_zero (a b : Option Addr) (c d : Nat) (w : World) :
    Calls Try.prog 29 #[.slice a 0 c, .slice b 0 d] w fun e w' => e = .returned (.bool true) ∧ Ext w w' := by
  go_enter Try.func29, Try.ntmps29
  go_wp2
  go_loopw [5] (fun i wr => i = .int .i64 0 ∧ Ext w wr) (fun _ _ => 0)
  case atStart => exact ⟨rfl, (by (with_reducible (repeat' (first | exact Ext.refl _ | assumption | refine Ext.drew ?_ | refine Ext.drewN ?_ _ | refine Ext.alloc ?_ _ | refine Ext.setCell ?_ ?_ _ | refine Ext.trans ?_ (by assumption)))); all_goals (first | (simp; done) | (simp; omega)))⟩
  case round =>
    obtain ⟨rfl, hext⟩ := hrel
    go_wp2
    go_ret
    exact ⟨rfl, (by (with_reducible (repeat' (first | exact Ext.refl _ | assumption | refine Ext.drew ?_ | refine Ext.drewN ?_ _ | refine Ext.alloc ?_ _ | refine Ext.setCell ?_ ?_ _ | refine Ext.trans ?_ (by assumption)))); all_goals (first | (simp; done) | (simp; omega)))⟩

set_option maxHeartbeats 400000 in
theorem ints11_rows (b off c b' off' c' : Nat) (l m : List Int) (w : World) (hl : l.length ≤ 1000000) (hlm : l.length = m.length) (hb : b < w.heap.size) (hb' : b' < w.heap.size) (h1 : IntsAt w b off l) (h2 : IntsAt w b' off' m) :
    Calls Try.prog 29 #[.slice (some ⟨b, off, none⟩) l.length c, .slice (some ⟨b', off', none⟩) l.length c'] w fun e w' => e = .returned (.bool (l == m)) ∧ Ext w w' := by
  have H1 := hide h1
  have H2 := hide h2
  have HL := hide hlm
  clear h1 h2 hlm
  go_enter Try.func29, Try.ntmps29
  go_wp2
  go_loopw [5] (fun i wr => ∃ k : Nat, k ≤ l.length ∧ i = .int .i64 k ∧ (∀ j (hj : j < k) (hj' : j < l.length), l[j]? = m[j]?) ∧ Ext w wr) (fun i _ => l.length - (intOf i).toNat)
  case atStart => exact ⟨0, Nat.zero_le _, rfl, fun j hj => by omega, (by (with_reducible (repeat' (first | exact Ext.refl _ | assumption | refine Ext.drew ?_ | refine Ext.drewN ?_ _ | refine Ext.alloc ?_ _ | refine Ext.setCell ?_ ?_ _ | refine Ext.trans ?_ (by assumption)))); all_goals (first | (simp; done) | (simp; omega)))⟩
  case round =>
    obtain ⟨k, hk, rfl, hall, hext⟩ := hrel
    have HA := hide hall
    clear hall
    by_cases hlt : k < l.length
    · have hlt' : k < m.length := by have := HL.out; omega
      have d1 := (H1.out.ext hb hext) k hlt
      have d2 := (H2.out.ext hb' hext) k hlt'
      cases hne : (l[k] != m[k])
      · go_wp2
        go_quiet (fail)
        go_wp2
        go_roundw
        case rel => exact ⟨k + 1, by omega, by go_num, fun j hj hj' => by
                    by_cases e : j = k
                    · subst e; rw [List.getElem?_eq_getElem hj', List.getElem?_eq_getElem hlt']; simpa using hne
                    · exact HA.out j (by omega) hj', (by (with_reducible (repeat' (first | exact Ext.refl _ | assumption | refine Ext.drew ?_ | refine Ext.drewN ?_ _ | refine Ext.alloc ?_ _ | refine Ext.setCell ?_ ?_ _ | refine Ext.trans ?_ (by assumption)))); all_goals (first | (simp; done) | (simp; omega)))⟩
        case measure => simp [intOf]; omega
      · go_wp2
        go_quiet (fail)
        go_wp2
        go_ret
        have e : (l == m) = false := by
          rw [beq_eq_false_iff_ne]
          rintro rfl
          simp at hne
        exact ⟨by rw [e]; rfl, (by (with_reducible (repeat' (first | exact Ext.refl _ | assumption | refine Ext.drew ?_ | refine Ext.drewN ?_ _ | refine Ext.alloc ?_ _ | refine Ext.setCell ?_ ?_ _ | refine Ext.trans ?_ (by assumption)))); all_goals (first | (simp; done) | (simp; omega)))⟩
    · have e : (l == m) = true := by
        rw [beq_iff_eq]
        apply List.ext_getElem?
        intro j
        by_cases hj : j < l.length
        · exact HA.out j (by omega) hj
        · rw [List.getElem?_eq_none (by omega), List.getElem?_eq_none (by have := HL.out; omega)]
      go_wp2
      go_ret
      exact ⟨by rw [e]; rfl, (by (with_reducible (repeat' (first | exact Ext.refl _ | assumption | refine Ext.drew ?_ | refine Ext.drewN ?_ _ | refine Ext.alloc ?_ _ | refine Ext.setCell ?_ ?_ _ | refine Ext.trans ?_ (by assumption)))); all_goals (first | (simp; done) | (simp; omega)))⟩

theorem ints11_any (va vb : Value) (l m : List Int) (w : World) (hl : l.length ≤ 1000000) (hm : m.length ≤ 1000000) (ha : Reads intE w va l) (hb : Reads intE w vb m) :
    Calls Try.prog 29 #[va, vb] w fun e w' => e = .returned (.bool (l == m)) ∧ Ext w w' := by
  by_cases hlm : l.length = m.length
  · by_cases h0 : l.length = 0
    · obtain ⟨a, c, rfl⟩ := ha.slice
      obtain ⟨b, d, rfl⟩ := hb.slice
      have e : (l == m) = true := by
        rw [List.eq_nil_of_length_eq_zero h0, List.eq_nil_of_length_eq_zero (l := m) (by omega)]; rfl
      rw [e, ← hlm, h0]
      exact ints11_zero a b c d w
    · rcases ha with ⟨rfl, rfl⟩ | ⟨b, off, c, rfl, hb1, hc⟩
      · simp at h0
      · rcases hb with ⟨rfl, rfl⟩ | ⟨b', off', c', rfl, hb2, hc'⟩
        · simp at hlm; simp [hlm] at h0
        · have i1 := (Reads.ints (.inr ⟨b, off, c, rfl, hb1, hc⟩ : Reads intE w (.slice (some ⟨b, off, none⟩) l.length c) l)).2
          have i2 := (Reads.ints (.inr ⟨b', off', c', rfl, hb2, hc'⟩ : Reads intE w (.slice (some ⟨b', off', none⟩) m.length c') m)).2
          rw [← hlm]
          exact ints11_rows b off c b' off' c' l m w hl hlm hb1 hb2 i1 i2
  · obtain ⟨a, c, rfl⟩ := ha.slice
    obtain ⟨b, d, rfl⟩ := hb.slice
    have e : (l == m) = false := by
      rw [beq_eq_false_iff_ne]
      rintro rfl
      exact hlm rfl
    rw [e]
    exact ints11_ne a b l.length m.length c d w (by simp; omega) hl hm

theorem pairs11_ne (a b : Option Addr) (n m c d : Nat) (w : World) (h : (decide ((n : Int) = m)) = false) (_hn : n ≤ 1000000) (_hm : m ≤ 1000000) :
    Calls Try.prog 32 #[.slice a n c, .slice b m d] w fun e w' => e = .returned (.bool false) ∧ Ext w w' := by
  have h' : ((n : Int) != m) = true := by simpa using h
  go_enter Try.func32, Try.ntmps32
  go_wp2
  go_ret
  exact ⟨rfl, (by (with_reducible (repeat' (first | exact Ext.refl _ | assumption | refine Ext.drew ?_ | refine Ext.drewN ?_ _ | refine Ext.alloc ?_ _ | refine Ext.setCell ?_ ?_ _ | refine Ext.trans ?_ (by assumption)))); all_goals (first | (simp; done) | (simp; omega)))⟩

theorem pairs11_zero (a b : Option Addr) (c d : Nat) (w : World) :
    Calls Try.prog 32 #[.slice a 0 c, .slice b 0 d] w fun e w' => e = .returned (.bool true) ∧ Ext w w' := by
  go_enter Try.func32, Try.ntmps32
  go_wp2
  go_loopw [5] (fun i wr => i = .int .i64 0 ∧ Ext w wr) (fun _ _ => 0)
  case atStart => exact ⟨rfl, (by (with_reducible (repeat' (first | exact Ext.refl _ | assumption | refine Ext.drew ?_ | refine Ext.drewN ?_ _ | refine Ext.alloc ?_ _ | refine Ext.setCell ?_ ?_ _ | refine Ext.trans ?_ (by assumption)))); all_goals (first | (simp; done) | (simp; omega)))⟩
  case round =>
    obtain ⟨rfl, hext⟩ := hrel
    go_wp2
    go_ret
    exact ⟨rfl, (by (with_reducible (repeat' (first | exact Ext.refl _ | assumption | refine Ext.drew ?_ | refine Ext.drewN ?_ _ | refine Ext.alloc ?_ _ | refine Ext.setCell ?_ ?_ _ | refine Ext.trans ?_ (by assumption)))); all_goals (first | (simp; done) | (simp; omega)))⟩

def PairsAt (w : World) (b off : Nat) (l : List (Cell × Cell)) : Prop := ∀ k (h : k < l.length), w.cell? ⟨b, off + k * 4, none⟩ = some (.int .i64 l[k].1.1) ∧ w.cell? ⟨b, off + k * 4 + 1, none⟩ = some (.int .i64 l[k].1.2) ∧ w.cell? ⟨b, off + k * 4 + 2, none⟩ = some (.int .i64 l[k].2.1) ∧ w.cell? ⟨b, off + k * 4 + 3, none⟩ = some (.int .i64 l[k].2.2)

theorem PairsAt.ext {w w' : World} {b off : Nat} {l : List (Cell × Cell)} (h : PairsAt w b off l) (hb : b < w.heap.size) (he : Ext w w') : PairsAt w' b off l :=
  fun k hk => ⟨(he.cell (p := ⟨b, _, none⟩) hb).trans (h k hk).1, (he.cell (p := ⟨b, _, none⟩) hb).trans (h k hk).2.1, (he.cell (p := ⟨b, _, none⟩) hb).trans (h k hk).2.2.1, (he.cell (p := ⟨b, _, none⟩) hb).trans (h k hk).2.2.2⟩

set_option maxHeartbeats 400000 in
theorem pairs11_rows (b off c b' off' c' : Nat) (l m : List (Cell × Cell)) (w : World) (hl : l.length ≤ 1000000) (hlm : l.length = m.length) (hb : b < w.heap.size) (hb' : b' < w.heap.size) (h1 : PairsAt w b off l) (h2 : PairsAt w b' off' m) :
    Calls Try.prog 32 #[.slice (some ⟨b, off, none⟩) l.length c, .slice (some ⟨b', off', none⟩) l.length c'] w fun e w' => e = .returned (.bool (l == m)) ∧ Ext w w' := by
  have H1 := hide h1
  have H2 := hide h2
  have HL := hide hlm
  clear h1 h2 hlm
  go_enter Try.func32, Try.ntmps32
  go_wp2
  go_loopw [5] (fun i wr => ∃ k : Nat, k ≤ l.length ∧ i = .int .i64 k ∧ (∀ j (hj : j < k) (hj' : j < l.length), l[j]? = m[j]?) ∧ Ext w wr) (fun i _ => l.length - (intOf i).toNat)
  case atStart => exact ⟨0, Nat.zero_le _, rfl, fun j hj => by omega, (by (with_reducible (repeat' (first | exact Ext.refl _ | assumption | refine Ext.drew ?_ | refine Ext.drewN ?_ _ | refine Ext.alloc ?_ _ | refine Ext.setCell ?_ ?_ _ | refine Ext.trans ?_ (by assumption)))); all_goals (first | (simp; done) | (simp; omega)))⟩
  case round =>
    obtain ⟨k, hk, rfl, hall, hext⟩ := hrel
    have HA := hide hall
    clear hall
    by_cases hlt : k < l.length
    · have hlt' : k < m.length := by have := HL.out; omega
      obtain ⟨d1, d2, d3, d4⟩ := (H1.out.ext hb hext) k hlt
      obtain ⟨e1, e2, e3, e4⟩ := (H2.out.ext hb' hext) k hlt'
      have hq := fun w => eq_pair l[k] m[k] w
      cases hne : pairB l[k] m[k]
      · go_wp2
        go_quiet (fail)
        go_wp2
        go_ret
        have e : (l == m) = false := by
          rw [beq_eq_false_iff_ne]
          rintro rfl
          simp [pairB_eq] at hne
        exact ⟨by rw [e]; rfl, (by (with_reducible (repeat' (first | exact Ext.refl _ | assumption | refine Ext.drew ?_ | refine Ext.drewN ?_ _ | refine Ext.alloc ?_ _ | refine Ext.setCell ?_ ?_ _ | refine Ext.trans ?_ (by assumption)))); all_goals (first | (simp; done) | (simp; omega)))⟩
      · go_wp2
        go_quiet (fail)
        go_wp2
        go_roundw
        case rel => exact ⟨k + 1, by omega, by go_num, fun j hj hj' => by
                    by_cases e : j = k
                    · subst e; rw [List.getElem?_eq_getElem hj', List.getElem?_eq_getElem hlt']; simpa [pairB_eq] using hne
                    · exact HA.out j (by omega) hj', (by (with_reducible (repeat' (first | exact Ext.refl _ | assumption | refine Ext.drew ?_ | refine Ext.drewN ?_ _ | refine Ext.alloc ?_ _ | refine Ext.setCell ?_ ?_ _ | refine Ext.trans ?_ (by assumption)))); all_goals (first | (simp; done) | (simp; omega)))⟩
        case measure => simp [intOf]; omega
    · have e : (l == m) = true := by
        rw [beq_iff_eq]
        apply List.ext_getElem?
        intro j
        by_cases hj : j < l.length
        · exact HA.out j (by omega) hj
        · rw [List.getElem?_eq_none (by omega), List.getElem?_eq_none (by have := HL.out; omega)]
      go_wp2
      go_ret
      exact ⟨by rw [e]; rfl, (by (with_reducible (repeat' (first | exact Ext.refl _ | assumption | refine Ext.drew ?_ | refine Ext.drewN ?_ _ | refine Ext.alloc ?_ _ | refine Ext.setCell ?_ ?_ _ | refine Ext.trans ?_ (by assumption)))); all_goals (first | (simp; done) | (simp; omega)))⟩

theorem Reads.pairs {w : World} {b off cap : Nat} {n : Nat} {l : List (Cell × Cell)} (h : Reads pairE w (.slice (some ⟨b, off, none⟩) n cap) l) : b < w.heap.size ∧ PairsAt w b off l := by
  rcases h with ⟨hv, _⟩ | ⟨b', off', cap', hv, hb, hc⟩
  · simp at hv
  · simp only [Value.slice.injEq, Option.some.injEq, Addr.mk.injEq] at hv
    obtain ⟨⟨rfl, rfl, _⟩, _, _⟩ := hv
    refine ⟨hb, fun k hk => ?_⟩
    have h0 := hc k l[k] (List.getElem?_eq_getElem hk)
    exact ⟨h0 0 _ rfl, h0 1 _ rfl, h0 2 _ rfl, h0 3 _ rfl⟩

theorem pairs11_any (va vb : Value) (l m : List (Cell × Cell)) (w : World) (hl : l.length ≤ 1000000) (hm : m.length ≤ 1000000) (ha : Reads pairE w va l) (hb : Reads pairE w vb m) :
    Calls Try.prog 32 #[va, vb] w fun e w' => e = .returned (.bool (l == m)) ∧ Ext w w' := by
  by_cases hlm : l.length = m.length
  · by_cases h0 : l.length = 0
    · obtain ⟨a, c, rfl⟩ := ha.slice
      obtain ⟨b, d, rfl⟩ := hb.slice
      have e : (l == m) = true := by
        rw [List.eq_nil_of_length_eq_zero h0, List.eq_nil_of_length_eq_zero (l := m) (by omega)]; rfl
      rw [e, ← hlm, h0]
      exact pairs11_zero a b c d w
    · rcases ha with ⟨rfl, rfl⟩ | ⟨b, off, c, rfl, hb1, hc⟩
      · simp at h0
      · rcases hb with ⟨rfl, rfl⟩ | ⟨b', off', c', rfl, hb2, hc'⟩
        · simp at hlm; simp [hlm] at h0
        · have i1 := (Reads.pairs (.inr ⟨b, off, c, rfl, hb1, hc⟩ : Reads pairE w (.slice (some ⟨b, off, none⟩) l.length c) l)).2
          have i2 := (Reads.pairs (.inr ⟨b', off', c', rfl, hb2, hc'⟩ : Reads pairE w (.slice (some ⟨b', off', none⟩) m.length c') m)).2
          rw [← hlm]
          exact pairs11_rows b off c b' off' c' l m w hl hlm hb1 hb2 i1 i2
  · obtain ⟨a, c, rfl⟩ := ha.slice
    obtain ⟨b, d, rfl⟩ := hb.slice
    have e : (l == m) = false := by
      rw [beq_eq_false_iff_ne]
      rintro rfl
      exact hlm rfl
    rw [e]
    exact pairs11_ne a b l.length m.length c d w (by simp; omega) hl hm
end Go.Proofs.Ytgaeelojgoageaa
