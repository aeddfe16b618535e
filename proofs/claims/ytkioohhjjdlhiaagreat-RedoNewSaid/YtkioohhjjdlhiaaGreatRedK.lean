/- slices.Equal of costs and of gates; grid.Same; redo's Same. -/
import Derived.Test.YtkioohhjjdlhiaaGreatRedJ
set_option linter.all false
set_option linter.unusedVariables false
set_option linter.unusedSimpArgs false
namespace Go.Proofs.YtkioohhjjdlhiaaGreat
open Go.RowKit

set_option maxRecDepth 100000 in
theorem equalU16_any (a b : Option Addr) (l m : List Int) (c d : Nat) (w : World) (hl : l.length ≤ 1000000) (ha : Row16 w a l) (hb : Row16 w b m) :
    Calls Tryz.prog 72 #[.slice a l.length c, .slice b m.length d] w fun e w' => e = .returned (.bool (decide (l = m))) ∧ Ext w w' := by
  by_cases hlen : l.length = m.length
  · have HA := hide ha
    have HB := hide hb
    have HLM := hide hlen
    obtain ⟨n, hn⟩ : ∃ n, l.length = n := ⟨_, rfl⟩
    have HN := hide hn
    rw [← hlen, hn]
    rw [hn] at hl
    clear ha hb hlen hn
    go_enter Tryz.func72, Tryz.ntmps72
    go_wp2_with fail
    go_loopw [13] (fun i wr => ∃ k : Nat, k ≤ n ∧ i = .int .i64 k ∧ l.take k = m.take k ∧ Ext w wr) (fun i _ => n - (intOf i).toNat)
    case atStart => exact ⟨0, Nat.zero_le _, rfl, rfl, (by (with_reducible (repeat' (first | exact Ext.refl _ | assumption | refine Ext.drew ?_ | refine Ext.drewN ?_ _ | refine Ext.alloc ?_ _ | refine Ext.setCell ?_ ?_ _ | refine Ext.trans ?_ (by assumption)))); all_goals (first | (simp; done) | (simp; omega)))⟩
    case round =>
      obtain ⟨k, hk, rfl, htk, hx⟩ := hrel
      have HT := hide htk
      have HX := hide hx
      clear htk hx
      by_cases hlt : k < n
      · have h1 : k < l.length := by rw [HN.out]; exact hlt
        have h2 : k < m.length := by rw [← HLM.out]; exact h1
        obtain ⟨ba, oa, rfl, za, ca⟩ := HA.out (by omega)
        obtain ⟨bb, ob, rfl, zb, cb⟩ := HB.out (by omega)
        have d0 := (HX.out.cell (p := ⟨ba, oa + k, none⟩) za).trans (ca k h1)
        have d1 := (HX.out.cell (p := ⟨bb, ob + k, none⟩) zb).trans (cb k h2)
        have z0 : ba < wr.heap.size := Nat.lt_of_lt_of_le za HX.out.size
        have z1 : bb < wr.heap.size := Nat.lt_of_lt_of_le zb HX.out.size
        have jk : (k : Int) < (n : Int) := by omega
        have e1 : l[k]? = some l[k] := List.getElem?_eq_getElem h1
        have e2 : m[k]? = some m[k] := List.getElem?_eq_getElem h2
        obtain ⟨x, hx⟩ : ∃ x, l[k] = x := ⟨_, rfl⟩
        obtain ⟨y, hy⟩ : ∃ y, m[k] = y := ⟨_, rfl⟩
        rw [hx] at d0 e1
        rw [hy] at d1 e2
        have E1 := hide e1
        have E2 := hide e2
        clear h1 h2 ca cb hx hy e1 e2
        by_cases hxy : x = y
        · have HN1 : Hid (l.take (k + 1) = m.take (k + 1)) := hide (by rw [List.take_add_one, List.take_add_one, E1.out, E2.out, HT.out, hxy])
          have hb1 : (x != y) = false := by simpa using hxy
          have hx := HX.out
          clear hxy
          go_wp2
          go_quiet (fail)
          go_wp2
          go_roundw
          case rel => exact ⟨k + 1, hlt, by go_num, HN1.out, (by (with_reducible (repeat' (first | exact Ext.refl _ | assumption | refine Ext.drew ?_ | refine Ext.drewN ?_ _ | refine Ext.alloc ?_ _ | refine Ext.setCell ?_ ?_ _ | refine Ext.trans ?_ (by assumption)))); all_goals (first | (simp; done) | (simp; omega)))⟩
          case measure => simp [intOf]; omega
        · have HF : Hid (decide (l = m) = false) := hide (by simp only [decide_eq_false_iff_not]; intro e; rw [e, E2.out] at E1; exact hxy (Option.some.inj E1.out).symm)
          have hb1 : (x != y) = true := by simpa using hxy
          clear hxy
          have hx := HX.out
          go_wp2
          go_quiet (fail)
          go_wp2
          go_ret
          exact ⟨by rw [HF.out] <;> rfl, (by (with_reducible (repeat' (first | exact Ext.refl _ | assumption | refine Ext.drew ?_ | refine Ext.drewN ?_ _ | refine Ext.alloc ?_ _ | refine Ext.setCell ?_ ?_ _ | refine Ext.trans ?_ (by assumption)))); all_goals (first | (simp; done) | (simp; omega)))⟩
      · obtain rfl : n = k := by omega
        have HF : Hid (decide (l = m) = true) := hide (by
          have h := HT.out
          rw [List.take_of_length_le (by rw [HN.out]; exact Nat.le_refl _), List.take_of_length_le (by rw [← HLM.out, HN.out]; exact Nat.le_refl _)] at h
          simpa using h)
        have hx := HX.out
        go_wp2
        go_ret
        exact ⟨by rw [HF.out] <;> rfl, (by (with_reducible (repeat' (first | exact Ext.refl _ | assumption | refine Ext.drew ?_ | refine Ext.drewN ?_ _ | refine Ext.alloc ?_ _ | refine Ext.setCell ?_ ?_ _ | refine Ext.trans ?_ (by assumption)))); all_goals (first | (simp; done) | (simp; omega)))⟩
  · have HF : Hid (decide (l = m) = false) := hide (by simp only [decide_eq_false_iff_not]; intro e; exact hlen (by rw [e]))
    have hb0 : ((l.length : Int) != (m.length : Int)) = true := by simp; omega
    obtain ⟨n, hn⟩ : ∃ n, l.length = n := ⟨_, rfl⟩
    obtain ⟨n2, hn2⟩ : ∃ n, m.length = n := ⟨_, rfl⟩
    have hb1 : (n != n2) = true := by simp; omega
    rw [hn, hn2] at hb0 ⊢
    clear ha hb hlen hn hn2
    go_enter Tryz.func72, Tryz.ntmps72
    go_wp2
    go_ret
    exact ⟨by rw [HF.out] <;> rfl, (by (with_reducible (repeat' (first | exact Ext.refl _ | assumption | refine Ext.drew ?_ | refine Ext.drewN ?_ _ | refine Ext.alloc ?_ _ | refine Ext.setCell ?_ ?_ _ | refine Ext.trans ?_ (by assumption)))); all_goals (first | (simp; done) | (simp; omega)))⟩

/-- A row of gates in memory. -/
def RowGt (w : World) (a : Option Addr) (l : List (Cell × Cell)) : Prop := 0 < l.length → ∃ b off, a = some ⟨b, off, none⟩ ∧ b < w.heap.size ∧ ∀ k (h : k < l.length), w.cell? ⟨b, off + k * 4, none⟩ = some (.int .i64 l[k].1.1) ∧ w.cell? ⟨b, off + k * 4 + 1, none⟩ = some (.int .i64 l[k].1.2) ∧ w.cell? ⟨b, off + k * 4 + 2, none⟩ = some (.int .i64 l[k].2.1) ∧ w.cell? ⟨b, off + k * 4 + 3, none⟩ = some (.int .i64 l[k].2.2)
theorem own_rowGt {w : World} {base n c : Nat} {e : TypeId} {a : Option Addr} {l : List (Cell × Cell)} (h : Own pairE w base e (.slice a n c) l) : RowGt w a l := fun h0 => by
  obtain ⟨g, rfl, hg, _⟩ := own_gate_at h (List.getElem?_eq_getElem h0)
  refine ⟨g, 0, rfl, hg, fun k hk => ?_⟩
  obtain ⟨g', e', _, hc⟩ := own_gate_at h (List.getElem?_eq_getElem hk)
  have eg : g = g' := by injection e' with e'; injection e'
  subst eg
  simpa using hc
theorem eq_gate (x y : Cell × Cell) (w : World) : (Op.equalIn 10000 85 (.agg #[.int .i64 x.1.1, .int .i64 x.1.2, .int .i64 x.2.1, .int .i64 x.2.2]) (.agg #[.int .i64 y.1.1, .int .i64 y.1.2, .int .i64 y.2.1, .int .i64 y.2.2])).run Tryz.prog w = .ok (decide (x = y)) w := by
  refine (eqIn_gate 9995 x.1.1 x.1.2 x.2.1 x.2.2 y.1.1 y.1.2 y.2.1 y.2.2 w).trans ?_
  congr 1
  rw [Bool.eq_iff_iff]
  obtain ⟨⟨a, b⟩, c, d⟩ := x
  obtain ⟨⟨a', b'⟩, c', d'⟩ := y
  simp

set_option maxRecDepth 100000 in
theorem equalGate_any (a b : Option Addr) (l m : List (Cell × Cell)) (c d : Nat) (w : World) (hl : l.length ≤ 1000000) (ha : RowGt w a l) (hb : RowGt w b m) :
    Calls Tryz.prog 70 #[.slice a l.length c, .slice b m.length d] w fun e w' => e = .returned (.bool (decide (l = m))) ∧ Ext w w' := by
  by_cases hlen : l.length = m.length
  · have HA := hide ha
    have HB := hide hb
    have HLM := hide hlen
    obtain ⟨n, hn⟩ : ∃ n, l.length = n := ⟨_, rfl⟩
    have HN := hide hn
    rw [← hlen, hn]
    rw [hn] at hl
    clear ha hb hlen hn
    go_enter Tryz.func70, Tryz.ntmps70
    go_wp2_with fail
    go_loopw [13] (fun i wr => ∃ k : Nat, k ≤ n ∧ i = .int .i64 k ∧ l.take k = m.take k ∧ Ext w wr) (fun i _ => n - (intOf i).toNat)
    case atStart => exact ⟨0, Nat.zero_le _, rfl, rfl, (by (with_reducible (repeat' (first | exact Ext.refl _ | assumption | refine Ext.drew ?_ | refine Ext.drewN ?_ _ | refine Ext.alloc ?_ _ | refine Ext.setCell ?_ ?_ _ | refine Ext.trans ?_ (by assumption)))); all_goals (first | (simp; done) | (simp; omega)))⟩
    case round =>
      obtain ⟨k, hk, rfl, htk, hx⟩ := hrel
      have HT := hide htk
      have HX := hide hx
      clear htk hx
      by_cases hlt : k < n
      · have h1 : k < l.length := by rw [HN.out]; exact hlt
        have h2 : k < m.length := by rw [← HLM.out]; exact h1
        obtain ⟨ba, oa, rfl, za, ca⟩ := HA.out (by omega)
        obtain ⟨bb, ob, rfl, zb, cb⟩ := HB.out (by omega)
        have d0 := (HX.out.cell (p := ⟨ba, oa + k * 4, none⟩) za).trans (ca k h1).1
        have d1 := (HX.out.cell (p := ⟨ba, oa + k * 4 + 1, none⟩) za).trans (ca k h1).2.1
        have d2 := (HX.out.cell (p := ⟨ba, oa + k * 4 + 2, none⟩) za).trans (ca k h1).2.2.1
        have d3 := (HX.out.cell (p := ⟨ba, oa + k * 4 + 3, none⟩) za).trans (ca k h1).2.2.2
        have d4 := (HX.out.cell (p := ⟨bb, ob + k * 4, none⟩) zb).trans (cb k h2).1
        have d5 := (HX.out.cell (p := ⟨bb, ob + k * 4 + 1, none⟩) zb).trans (cb k h2).2.1
        have d6 := (HX.out.cell (p := ⟨bb, ob + k * 4 + 2, none⟩) zb).trans (cb k h2).2.2.1
        have d7 := (HX.out.cell (p := ⟨bb, ob + k * 4 + 3, none⟩) zb).trans (cb k h2).2.2.2
        have z0 : ba < wr.heap.size := Nat.lt_of_lt_of_le za HX.out.size
        have z1 : bb < wr.heap.size := Nat.lt_of_lt_of_le zb HX.out.size
        have jk : (k : Int) < (n : Int) := by omega
        have e1 : l[k]? = some l[k] := List.getElem?_eq_getElem h1
        have e2 : m[k]? = some m[k] := List.getElem?_eq_getElem h2
        obtain ⟨x, hx⟩ : ∃ x, l[k] = x := ⟨_, rfl⟩
        obtain ⟨y, hy⟩ : ∃ y, m[k] = y := ⟨_, rfl⟩
        rw [hx] at d0 d1 d2 d3 e1
        rw [hy] at d4 d5 d6 d7 e2
        have E1 := hide e1
        have E2 := hide e2
        clear h1 h2 ca cb hx hy e1 e2
        by_cases hxy : x = y
        · have HN1 : Hid (l.take (k + 1) = m.take (k + 1)) := hide (by rw [List.take_add_one, List.take_add_one, E1.out, E2.out, HT.out, hxy])
          have hq1 : ∀ w, (Op.equalIn 10000 85 (.agg #[.int .i64 x.1.1, .int .i64 x.1.2, .int .i64 x.2.1, .int .i64 x.2.2]) (.agg #[.int .i64 y.1.1, .int .i64 y.1.2, .int .i64 y.2.1, .int .i64 y.2.2])).run Tryz.prog w = .ok true w := fun w => by rw [eq_gate x y w]; simp [hxy]
          have hx := HX.out
          clear hxy
          go_wp2
          go_quiet (fail)
          go_wp2
          go_roundw
          case rel => exact ⟨k + 1, hlt, by go_num, HN1.out, (by (with_reducible (repeat' (first | exact Ext.refl _ | assumption | refine Ext.drew ?_ | refine Ext.drewN ?_ _ | refine Ext.alloc ?_ _ | refine Ext.setCell ?_ ?_ _ | refine Ext.trans ?_ (by assumption)))); all_goals (first | (simp; done) | (simp; omega)))⟩
          case measure => simp [intOf]; omega
        · have HF : Hid (decide (l = m) = false) := hide (by simp only [decide_eq_false_iff_not]; intro e; rw [e, E2.out] at E1; exact hxy (Option.some.inj E1.out).symm)
          have hq1 : ∀ w, (Op.equalIn 10000 85 (.agg #[.int .i64 x.1.1, .int .i64 x.1.2, .int .i64 x.2.1, .int .i64 x.2.2]) (.agg #[.int .i64 y.1.1, .int .i64 y.1.2, .int .i64 y.2.1, .int .i64 y.2.2])).run Tryz.prog w = .ok false w := fun w => by rw [eq_gate x y w]; simp [hxy]
          clear hxy
          have hx := HX.out
          go_wp2
          go_quiet (fail)
          go_wp2
          go_ret
          exact ⟨by rw [HF.out] <;> rfl, (by (with_reducible (repeat' (first | exact Ext.refl _ | assumption | refine Ext.drew ?_ | refine Ext.drewN ?_ _ | refine Ext.alloc ?_ _ | refine Ext.setCell ?_ ?_ _ | refine Ext.trans ?_ (by assumption)))); all_goals (first | (simp; done) | (simp; omega)))⟩
      · obtain rfl : n = k := by omega
        have HF : Hid (decide (l = m) = true) := hide (by
          have h := HT.out
          rw [List.take_of_length_le (by rw [HN.out]; exact Nat.le_refl _), List.take_of_length_le (by rw [← HLM.out, HN.out]; exact Nat.le_refl _)] at h
          simpa using h)
        have hx := HX.out
        go_wp2
        go_ret
        exact ⟨by rw [HF.out] <;> rfl, (by (with_reducible (repeat' (first | exact Ext.refl _ | assumption | refine Ext.drew ?_ | refine Ext.drewN ?_ _ | refine Ext.alloc ?_ _ | refine Ext.setCell ?_ ?_ _ | refine Ext.trans ?_ (by assumption)))); all_goals (first | (simp; done) | (simp; omega)))⟩
  · have HF : Hid (decide (l = m) = false) := hide (by simp only [decide_eq_false_iff_not]; intro e; exact hlen (by rw [e]))
    have hb0 : ((l.length : Int) != (m.length : Int)) = true := by simp; omega
    obtain ⟨n, hn⟩ : ∃ n, l.length = n := ⟨_, rfl⟩
    obtain ⟨n2, hn2⟩ : ∃ n, m.length = n := ⟨_, rfl⟩
    have hb1 : (n != n2) = true := by simp; omega
    rw [hn, hn2] at hb0 ⊢
    clear ha hb hlen hn hn2
    go_enter Tryz.func70, Tryz.ntmps70
    go_wp2
    go_ret
    exact ⟨by rw [HF.out] <;> rfl, (by (with_reducible (repeat' (first | exact Ext.refl _ | assumption | refine Ext.drew ?_ | refine Ext.drewN ?_ _ | refine Ext.alloc ?_ _ | refine Ext.setCell ?_ ?_ _ | refine Ext.trans ?_ (by assumption)))); all_goals (first | (simp; done) | (simp; omega)))⟩

set_option maxRecDepth 100000 in
theorem gSame_any (W H : Int) (a b : Option Addr) (l m : List Int) (c d : Nat) (w : World) (hl : l.length ≤ 1000000) (ha : Row16 w a l) (hb : Row16 w b m) :
    Calls Tryz.prog 24 #[.agg #[.int .i64 W, .int .i64 H, .slice a l.length c], .agg #[.int .i64 W, .int .i64 H, .slice b m.length d]] w fun e w' => e = .returned (.bool (decide (l = m))) ∧ Ext w w' := by
  have H1 := hide (fun (w' : World) (hx : Ext w w') => equalU16_any a b l m c d w' hl (ha.ext hx) (hb.ext hx))
  generalize decide (l = m) = q at *
  obtain ⟨n1, h1⟩ : ∃ z, l.length = z := ⟨_, rfl⟩
  obtain ⟨n2, h2⟩ : ∃ z, m.length = z := ⟨_, rfl⟩
  rw [h1, h2] at H1 ⊢
  have heq := fun w => eq_size W H W H w
  simp only [beq_self_eq_true, Bool.and_self] at heq
  clear ha hb hl h1 h2
  go_enter Tryz.func24, Tryz.ntmps24
  go_wp2_with fail
  refine (H1.out _ (by (with_reducible (repeat' (first | exact Ext.refl _ | assumption | refine Ext.drew ?_ | refine Ext.drewN ?_ _ | refine Ext.alloc ?_ _ | refine Ext.setCell ?_ ?_ _ | refine Ext.trans ?_ (by assumption)))); all_goals (first | (simp; done) | (simp; omega)))).mono ?_
  rintro e w1 ⟨rfl, hb1⟩
  go_wp2_with fail
  go_ret
  exact ⟨by cases q <;> rfl, (by (with_reducible (repeat' (first | exact Ext.refl _ | assumption | refine Ext.drew ?_ | refine Ext.drewN ?_ _ | refine Ext.alloc ?_ _ | refine Ext.setCell ?_ ?_ _ | refine Ext.trans ?_ (by assumption)))); all_goals (first | (simp; done) | (simp; omega)))⟩

/-- Tables in memory. -/
def TabsAt (w : World) (g N c : Nat) (T : List Tab) : Prop := ∃ (R : Nat → Prop) (ts : List (Sl × Sl)), Own tabE w 0 74 (.slice (some ⟨g, 0, none⟩) N c) ts ∧ TabsR R w ts T
theorem TabsAt.ext {w w' : World} {g N c : Nat} {T : List Tab} (h : TabsAt w g N c T) (x : Ext w w') : TabsAt w' g N c T := by
  obtain ⟨R, ts, h1, h2⟩ := h
  exact ⟨R, ts, h1.ext x, h2.touch (Touch.of_ext (S := fun _ => False) x) (fun _ _ x => x)⟩
theorem TabsAt.at {w : World} {g N c k : Nat} {T : List Tab} {t : Tab} (h : TabsAt w g N c T) (ht : T[k]? = some t) :
    ∃ a n b m, w.cell? ⟨g, k * 2, none⟩ = some (.slice a t.1.length n) ∧ w.cell? ⟨g, k * 2 + 1, none⟩ = some (.slice b t.2.length m) ∧ RowC w a t.1 ∧ RowsU w b t.2 := by
  obtain ⟨R, ts, h1, h2, h3⟩ := h
  obtain ⟨q, hq⟩ : ∃ q, ts[k]? = some q := ⟨_, List.getElem?_eq_getElem (by rw [h2]; exact (List.getElem?_eq_some_iff.1 ht).1)⟩
  have CA := own_tab_at h1 hq
  obtain ⟨⟨o, _⟩, r⟩ := h3 k q t hq ht
  obtain ⟨⟨q1, q2, q3⟩, ⟨q4, q5, q6⟩⟩ := q
  simp only [slV] at CA o r
  obtain ⟨e1, rc⟩ := Reads.rowC o.reads
  have ra := r.at0
  obtain ⟨_, _, e2, _⟩ := rowsU_of ra
  have ru := ra.u
  have e3 : q5 = t.2.length := by injection e2
  subst e1 e3
  exact ⟨q1, q3, q4, q6, CA.1, CA.2, rc, ru⟩

set_option maxRecDepth 100000 in
theorem equalTabs_yes {w : World} {g1 g2 c1 c2 N : Nat} {T : List Tab} (h1 : TabsAt w g1 N c1 T) (h2 : TabsAt w g2 N c2 T) (hN : T.length = N) (hT : ∀ t ∈ T, t.1.length ≤ 256 ∧ t.2.length ≤ 256 ∧ ∀ r ∈ t.2, r.length ≤ 256) (hN2 : N ≤ 65536) :
    Calls Tryz.prog 71 #[.slice (some ⟨g1, 0, none⟩) N c1, .slice (some ⟨g2, 0, none⟩) N c2, .func (.func 34) #[] #[]] w fun e w' => e = .returned (.bool true) ∧ Ext w w' := by
  have H1 := hide h1
  have H2 := hide h2
  have HN := hide hN
  have HT := hide hT
  clear h1 h2 hN hT
  go_enter Tryz.func71, Tryz.ntmps71
  go_wp2_with fail
  go_loopw [17] (fun i wr => ∃ k : Nat, k ≤ N ∧ i = .int .i64 (k : Int) ∧ Ext w wr) (fun i _ => N - (intOf i).toNat)
  case atStart => exact ⟨0, Nat.zero_le _, rfl, Ext.refl _⟩
  case round =>
    obtain ⟨k, hk, rfl, hx⟩ := hrel
    have HX := hide hx
    clear hx
    by_cases hlt : k < N
    · obtain ⟨t, ht⟩ : ∃ t, T[k]? = some t := ⟨_, List.getElem?_eq_getElem (by rw [HN.out]; exact hlt)⟩
      obtain ⟨a1, n1, b1, m1, d0, d1, ra1, rb1⟩ := (H1.out.ext HX.out).at ht
      obtain ⟨a2, n2, b2, m2, d2, d3, ra2, rb2⟩ := (H2.out.ext HX.out).at ht
      obtain ⟨t1, t2, t3⟩ := HT.out t (List.mem_of_getElem? ht)
      have HI := hide (fun (w' : World) (x : Ext wr w') => iSame_any a1 a2 b1 b2 t.1 t.1 t.2 t.2 n1 n2 m1 m2 w' (by omega) (ra1.ext x) (ra2.ext x) (by omega) (rb1.ext x) (rb2.ext x) (fun r hr => by have := t3 r hr; omega))
      simp only [decide_true, Bool.and_self] at HI
      have z0 := World.block_lt_of_cell? wr _ d0
      have z1 := World.block_lt_of_cell? wr _ d2
      simp only at z0 z1
      have jk : (k : Int) < (N : Int) := by omega
      obtain ⟨u, hu⟩ : ∃ z, t.1.length = z := ⟨_, rfl⟩
      obtain ⟨v, hv⟩ : ∃ z, t.2.length = z := ⟨_, rfl⟩
      rw [hu, hv] at HI
      rw [hu] at d0 d2
      rw [hv] at d1 d3
      clear ht ra1 rb1 ra2 rb2 t1 t2 t3 hu hv
      go_wp2_with fail
      refine (HI.out _ (by (with_reducible (repeat' (first | exact Ext.refl _ | assumption | refine Ext.drew ?_ | refine Ext.drewN ?_ _ | refine Ext.alloc ?_ _ | refine Ext.setCell ?_ ?_ _ | refine Ext.trans ?_ (by assumption)))); all_goals (first | (simp; done) | (simp; omega)))).mono ?_
      rintro e w3 ⟨rfl, hb3⟩
      have X3 := hide (show Ext wr w3 from (by (with_reducible (repeat' (first | exact Ext.refl _ | assumption | refine Ext.drew ?_ | refine Ext.drewN ?_ _ | refine Ext.alloc ?_ _ | refine Ext.setCell ?_ ?_ _ | refine Ext.trans ?_ (by assumption)))); all_goals (first | (simp; done) | (simp; omega))))
      clear hb3 d0 d1 d2 d3
      go_wp2_with fail
      go_roundw
      case rel => exact ⟨k + 1, by omega, by go_num, HX.out.trans X3.out⟩
      case measure => simp [intOf]; omega
    · obtain rfl : N = k := by omega
      go_wp2
      go_ret
      exact ⟨rfl, HX.out⟩
end Go.Proofs.YtkioohhjjdlhiaaGreat
