/- Rows of cells, and of rows, that are compared, of layer 13. -/
import Derived.Test.YtifbmapianddcaaInH
namespace Go.Proofs.Ytifbmapianddcaa
open Go.RowKit

set_option maxRecDepth 100000 in
theorem cells13_any (a b : Option Addr) (l m : List Cell) (c d : Nat) (w : World) (hl : l.length ≤ 1000000) (ha : RowC w a l) (hb : RowC w b m) :
    Calls Try.prog 29 #[.slice a l.length c, .slice b m.length d] w fun e w' => e = .returned (.bool (decide (l = m))) ∧ Ext w w' := by
  by_cases hlen : l.length = m.length
  · have HA := hide ha
    have HB := hide hb
    have HLM := hide hlen
    obtain ⟨n, hn⟩ : ∃ n, l.length = n := ⟨_, rfl⟩
    have HN := hide hn
    rw [← hlen, hn]
    rw [hn] at hl
    clear ha hb hlen hn
    go_enter Try.func29, Try.ntmps29
    go_wp2_with fail
    go_loopw [5] (fun i wr => ∃ k : Nat, k ≤ n ∧ i = .int .i64 k ∧ l.take k = m.take k ∧ Ext w wr) (fun i _ => n - (intOf i).toNat)
    case atStart => exact ⟨0, Nat.zero_le _, rfl, rfl, (by (with_reducible (repeat' (first | exact Ext.refl _ | assumption | refine Ext.drew ?_ | refine Ext.drewN ?_ _ | refine Ext.alloc ?_ _ | refine Ext.setCell ?_ ?_ _ | refine Ext.trans ?_ (by assumption)))); all_goals (first | (simp; done) | (simp; omega)))⟩
    case round =>
      obtain ⟨k, hk, rfl, htk, hx⟩ := hrel
      have HT := hide htk
      have HX := hide hx
      clear htk hx
      by_cases hlt : k < n
      · have h1 : k < l.length := by rw [HN.out]; exact hlt
        have h2 : k < m.length := by rw [← HLM.out]; exact h1
        obtain ⟨ba, oa, rfl, za, ca⟩ := HA.out (by omega)
        obtain ⟨bb, ob, rfl, zb, cb⟩ := HB.out (by omega)
        have d0 := (HX.out.cell (p := ⟨ba, oa + k * 2, none⟩) za).trans (ca k h1).1
        have d2 := (HX.out.cell (p := ⟨ba, oa + k * 2 + 1, none⟩) za).trans (ca k h1).2
        have d1 := (HX.out.cell (p := ⟨bb, ob + k * 2, none⟩) zb).trans (cb k h2).1
        have d3 := (HX.out.cell (p := ⟨bb, ob + k * 2 + 1, none⟩) zb).trans (cb k h2).2
        have z0 : ba < wr.heap.size := Nat.lt_of_lt_of_le za HX.out.size
        have z1 : bb < wr.heap.size := Nat.lt_of_lt_of_le zb HX.out.size
        have jk : (k : Int) < (n : Int) := by omega
        have e1 : l[k]? = some l[k] := List.getElem?_eq_getElem h1
        have e2 : m[k]? = some m[k] := List.getElem?_eq_getElem h2
        obtain ⟨x, hx⟩ : ∃ x, l[k] = x := ⟨_, rfl⟩
        obtain ⟨y, hy⟩ : ∃ y, m[k] = y := ⟨_, rfl⟩
        rw [hx] at d0 d2 e1
        rw [hy] at d1 d3 e2
        have E1 := hide e1
        have E2 := hide e2
        clear h1 h2 ca cb hx hy e1 e2
        by_cases hxy : x = y
        · have HN1 : Hid (l.take (k + 1) = m.take (k + 1)) := hide (by rw [List.take_add_one, List.take_add_one, E1.out, E2.out, HT.out, hxy])
          have hq1 : ∀ w, (Op.equalIn 10000 28 (.agg #[.int .i64 x.1, .int .i64 x.2]) (.agg #[.int .i64 y.1, .int .i64 y.2])).run Try.prog w = .ok true w := fun w => by rw [eq_cell x y w, cellB_eq]; simp [hxy]
          have hx := HX.out
          clear hxy
          go_wp2
          go_quiet (fail)
          go_wp2
          go_roundw
          case rel => exact ⟨k + 1, hlt, by go_num, HN1.out, (by (with_reducible (repeat' (first | exact Ext.refl _ | assumption | refine Ext.drew ?_ | refine Ext.drewN ?_ _ | refine Ext.alloc ?_ _ | refine Ext.setCell ?_ ?_ _ | refine Ext.trans ?_ (by assumption)))); all_goals (first | (simp; done) | (simp; omega)))⟩
          case measure => simp [intOf]; omega
        · have HF : Hid (decide (l = m) = false) := hide (by simp only [decide_eq_false_iff_not]; intro e; rw [e, E2.out] at E1; exact hxy (Option.some.inj E1.out).symm)
          have hq1 : ∀ w, (Op.equalIn 10000 28 (.agg #[.int .i64 x.1, .int .i64 x.2]) (.agg #[.int .i64 y.1, .int .i64 y.2])).run Try.prog w = .ok false w := fun w => by rw [eq_cell x y w, cellB_eq]; simp [hxy]
          clear hxy
          have hx := HX.out
          go_wp2
          go_quiet (fail)
          go_wp2
          go_ret
          exact ⟨by rw [HF.out] <;> rfl, (by (with_reducible (repeat' (first | exact Ext.refl _ | assumption | refine Ext.drew ?_ | refine Ext.drewN ?_ _ | refine Ext.alloc ?_ _ | refine Ext.setCell ?_ ?_ _ | refine Ext.trans ?_ (by assumption)))); all_goals (first | (simp; done) | (simp; omega)))⟩
      · obtain rfl : n = k := by omega
        have HF : Hid (decide (l = m) = true) := hide (by
          have h := HT.out
          rw [List.take_of_length_le (by rw [HN.out]; exact Nat.le_refl _), List.take_of_length_le (by rw [← HLM.out, HN.out]; exact Nat.le_refl _)] at h
          simpa using h)
        have hx := HX.out
        go_wp2
        go_ret
        exact ⟨by rw [HF.out] <;> rfl, (by (with_reducible (repeat' (first | exact Ext.refl _ | assumption | refine Ext.drew ?_ | refine Ext.drewN ?_ _ | refine Ext.alloc ?_ _ | refine Ext.setCell ?_ ?_ _ | refine Ext.trans ?_ (by assumption)))); all_goals (first | (simp; done) | (simp; omega)))⟩
  · have HF : Hid (decide (l = m) = false) := hide (by simp only [decide_eq_false_iff_not]; intro e; exact hlen (by rw [e]))
    have hb0 : ((l.length : Int) != (m.length : Int)) = true := by simp; omega
    obtain ⟨n, hn⟩ : ∃ n, l.length = n := ⟨_, rfl⟩
    obtain ⟨n2, hn2⟩ : ∃ n, m.length = n := ⟨_, rfl⟩
    have hb1 : (n != n2) = true := by simp; omega
    rw [hn, hn2] at hb0 ⊢
    clear ha hb hlen hn hn2
    go_enter Try.func29, Try.ntmps29
    go_wp2
    go_ret
    exact ⟨by rw [HF.out] <;> rfl, (by (with_reducible (repeat' (first | exact Ext.refl _ | assumption | refine Ext.drew ?_ | refine Ext.drewN ?_ _ | refine Ext.alloc ?_ _ | refine Ext.setCell ?_ ?_ _ | refine Ext.trans ?_ (by assumption)))); all_goals (first | (simp; done) | (simp; omega)))⟩

set_option maxRecDepth 100000 in
theorem equalCell_any (a b : Option Addr) (l m : List Cell) (c d : Nat) (w : World) (hl : l.length ≤ 1000000) (ha : RowC w a l) (hb : RowC w b m) :
    Calls Try.prog 83 #[.slice a l.length c, .slice b m.length d] w fun e w' => e = .returned (.bool (decide (l = m))) ∧ Ext w w' := by
  by_cases hlen : l.length = m.length
  · have HA := hide ha
    have HB := hide hb
    have HLM := hide hlen
    obtain ⟨n, hn⟩ : ∃ n, l.length = n := ⟨_, rfl⟩
    have HN := hide hn
    rw [← hlen, hn]
    rw [hn] at hl
    clear ha hb hlen hn
    go_enter Try.func83, Try.ntmps83
    go_wp2_with fail
    go_loopw [13] (fun i wr => ∃ k : Nat, k ≤ n ∧ i = .int .i64 k ∧ l.take k = m.take k ∧ Ext w wr) (fun i _ => n - (intOf i).toNat)
    case atStart => exact ⟨0, Nat.zero_le _, rfl, rfl, (by (with_reducible (repeat' (first | exact Ext.refl _ | assumption | refine Ext.drew ?_ | refine Ext.drewN ?_ _ | refine Ext.alloc ?_ _ | refine Ext.setCell ?_ ?_ _ | refine Ext.trans ?_ (by assumption)))); all_goals (first | (simp; done) | (simp; omega)))⟩
    case round =>
      obtain ⟨k, hk, rfl, htk, hx⟩ := hrel
      have HT := hide htk
      have HX := hide hx
      clear htk hx
      by_cases hlt : k < n
      · have h1 : k < l.length := by rw [HN.out]; exact hlt
        have h2 : k < m.length := by rw [← HLM.out]; exact h1
        obtain ⟨ba, oa, rfl, za, ca⟩ := HA.out (by omega)
        obtain ⟨bb, ob, rfl, zb, cb⟩ := HB.out (by omega)
        have d0 := (HX.out.cell (p := ⟨ba, oa + k * 2, none⟩) za).trans (ca k h1).1
        have d2 := (HX.out.cell (p := ⟨ba, oa + k * 2 + 1, none⟩) za).trans (ca k h1).2
        have d1 := (HX.out.cell (p := ⟨bb, ob + k * 2, none⟩) zb).trans (cb k h2).1
        have d3 := (HX.out.cell (p := ⟨bb, ob + k * 2 + 1, none⟩) zb).trans (cb k h2).2
        have z0 : ba < wr.heap.size := Nat.lt_of_lt_of_le za HX.out.size
        have z1 : bb < wr.heap.size := Nat.lt_of_lt_of_le zb HX.out.size
        have jk : (k : Int) < (n : Int) := by omega
        have e1 : l[k]? = some l[k] := List.getElem?_eq_getElem h1
        have e2 : m[k]? = some m[k] := List.getElem?_eq_getElem h2
        obtain ⟨x, hx⟩ : ∃ x, l[k] = x := ⟨_, rfl⟩
        obtain ⟨y, hy⟩ : ∃ y, m[k] = y := ⟨_, rfl⟩
        rw [hx] at d0 d2 e1
        rw [hy] at d1 d3 e2
        have E1 := hide e1
        have E2 := hide e2
        clear h1 h2 ca cb hx hy e1 e2
        by_cases hxy : x = y
        · have HN1 : Hid (l.take (k + 1) = m.take (k + 1)) := hide (by rw [List.take_add_one, List.take_add_one, E1.out, E2.out, HT.out, hxy])
          have hq1 : ∀ w, (Op.equalIn 10000 28 (.agg #[.int .i64 x.1, .int .i64 x.2]) (.agg #[.int .i64 y.1, .int .i64 y.2])).run Try.prog w = .ok true w := fun w => by rw [eq_cell x y w, cellB_eq]; simp [hxy]
          have hx := HX.out
          clear hxy
          go_wp2
          go_quiet (fail)
          go_wp2
          go_roundw
          case rel => exact ⟨k + 1, hlt, by go_num, HN1.out, (by (with_reducible (repeat' (first | exact Ext.refl _ | assumption | refine Ext.drew ?_ | refine Ext.drewN ?_ _ | refine Ext.alloc ?_ _ | refine Ext.setCell ?_ ?_ _ | refine Ext.trans ?_ (by assumption)))); all_goals (first | (simp; done) | (simp; omega)))⟩
          case measure => simp [intOf]; omega
        · have HF : Hid (decide (l = m) = false) := hide (by simp only [decide_eq_false_iff_not]; intro e; rw [e, E2.out] at E1; exact hxy (Option.some.inj E1.out).symm)
          have hq1 : ∀ w, (Op.equalIn 10000 28 (.agg #[.int .i64 x.1, .int .i64 x.2]) (.agg #[.int .i64 y.1, .int .i64 y.2])).run Try.prog w = .ok false w := fun w => by rw [eq_cell x y w, cellB_eq]; simp [hxy]
          clear hxy
          have hx := HX.out
          go_wp2
          go_quiet (fail)
          go_wp2
          go_ret
          exact ⟨by rw [HF.out] <;> rfl, (by (with_reducible (repeat' (first | exact Ext.refl _ | assumption | refine Ext.drew ?_ | refine Ext.drewN ?_ _ | refine Ext.alloc ?_ _ | refine Ext.setCell ?_ ?_ _ | refine Ext.trans ?_ (by assumption)))); all_goals (first | (simp; done) | (simp; omega)))⟩
      · obtain rfl : n = k := by omega
        have HF : Hid (decide (l = m) = true) := hide (by
          have h := HT.out
          rw [List.take_of_length_le (by rw [HN.out]; exact Nat.le_refl _), List.take_of_length_le (by rw [← HLM.out, HN.out]; exact Nat.le_refl _)] at h
          simpa using h)
        have hx := HX.out
        go_wp2
        go_ret
        exact ⟨by rw [HF.out] <;> rfl, (by (with_reducible (repeat' (first | exact Ext.refl _ | assumption | refine Ext.drew ?_ | refine Ext.drewN ?_ _ | refine Ext.alloc ?_ _ | refine Ext.setCell ?_ ?_ _ | refine Ext.trans ?_ (by assumption)))); all_goals (first | (simp; done) | (simp; omega)))⟩
  · have HF : Hid (decide (l = m) = false) := hide (by simp only [decide_eq_false_iff_not]; intro e; exact hlen (by rw [e]))
    have hb0 : ((l.length : Int) != (m.length : Int)) = true := by simp; omega
    obtain ⟨n, hn⟩ : ∃ n, l.length = n := ⟨_, rfl⟩
    obtain ⟨n2, hn2⟩ : ∃ n, m.length = n := ⟨_, rfl⟩
    have hb1 : (n != n2) = true := by simp; omega
    rw [hn, hn2] at hb0 ⊢
    clear ha hb hlen hn hn2
    go_enter Try.func83, Try.ntmps83
    go_wp2
    go_ret
    exact ⟨by rw [HF.out] <;> rfl, (by (with_reducible (repeat' (first | exact Ext.refl _ | assumption | refine Ext.drew ?_ | refine Ext.drewN ?_ _ | refine Ext.alloc ?_ _ | refine Ext.setCell ?_ ?_ _ | refine Ext.trans ?_ (by assumption)))); all_goals (first | (simp; done) | (simp; omega)))⟩

/-- Rows of costs that are read. -/
def RowsU (w : World) (a : Option Addr) (ll : List (List Int)) : Prop := 0 < ll.length → ∃ b off, a = some ⟨b, off, none⟩ ∧ b < w.heap.size ∧ ∀ k (h : k < ll.length), ∃ sa sc, w.cell? ⟨b, off + k, none⟩ = some (.slice sa ll[k].length sc) ∧ RowU w sa ll[k]
theorem RowsU.ext {w w' : World} {a : Option Addr} {l : List (List Int)} (h : RowsU w a l) (e : Ext w w') : RowsU w' a l := fun h0 => by
  obtain ⟨b, off, ha, hb, hc⟩ := h h0
  exact ⟨b, off, ha, Nat.lt_of_lt_of_le hb e.size, fun k hk => by
    obtain ⟨sa, sc, h1, h2⟩ := hc k hk
    exact ⟨sa, sc, (e.cell (p := ⟨b, off + k, none⟩) hb).trans h1, h2.ext e⟩⟩

set_option maxRecDepth 100000 in
theorem rows13_any (a b : Option Addr) (l m : List (List Int)) (c d : Nat) (w : World) (hl : l.length ≤ 1000000) (ha : RowsU w a l) (hb : RowsU w b m) (hs : ∀ r, r ∈ l → r.length ≤ 1000000) :
    Calls Try.prog 30 #[.slice a l.length c, .slice b m.length d] w fun e w' => e = .returned (.bool (decide (l = m))) ∧ Ext w w' := by
  by_cases hlen : l.length = m.length
  · have HS := hide hs
    have HA := hide ha
    have HB := hide hb
    have HLM := hide hlen
    obtain ⟨n, hn⟩ : ∃ n, l.length = n := ⟨_, rfl⟩
    have HN := hide hn
    rw [← hlen, hn]
    rw [hn] at hl
    clear ha hb hlen hn hs
    go_enter Try.func30, Try.ntmps30
    go_wp2_with fail
    go_loopw [5] (fun i wr => ∃ k : Nat, k ≤ n ∧ i = .int .i64 k ∧ l.take k = m.take k ∧ Ext w wr) (fun i _ => n - (intOf i).toNat)
    case atStart => exact ⟨0, Nat.zero_le _, rfl, rfl, (by (with_reducible (repeat' (first | exact Ext.refl _ | assumption | refine Ext.drew ?_ | refine Ext.drewN ?_ _ | refine Ext.alloc ?_ _ | refine Ext.setCell ?_ ?_ _ | refine Ext.trans ?_ (by assumption)))); all_goals (first | (simp; done) | (simp; omega)))⟩
    case round =>
      obtain ⟨k, hk, rfl, htk, hx⟩ := hrel
      have HT := hide htk
      have HX := hide hx
      clear htk hx
      by_cases hlt : k < n
      · have h1 : k < l.length := by rw [HN.out]; exact hlt
        have h2 : k < m.length := by rw [← HLM.out]; exact h1
        obtain ⟨ba, oa, rfl, za, ca⟩ := HA.out (by omega)
        obtain ⟨bb, ob, rfl, zb, cb⟩ := HB.out (by omega)
        obtain ⟨sa, sca, c0, r0⟩ := ca k h1
        obtain ⟨sb, scb, c1, r1⟩ := cb k h2
        have d0 := (HX.out.cell (p := ⟨ba, oa + k, none⟩) za).trans c0
        have d1 := (HX.out.cell (p := ⟨bb, ob + k, none⟩) zb).trans c1
        have hl1 := HS.out l[k] (List.getElem_mem h1)
        have z0 : ba < wr.heap.size := Nat.lt_of_lt_of_le za HX.out.size
        have z1 : bb < wr.heap.size := Nat.lt_of_lt_of_le zb HX.out.size
        have jk : (k : Int) < (n : Int) := by omega
        have e1 : l[k]? = some l[k] := List.getElem?_eq_getElem h1
        have e2 : m[k]? = some m[k] := List.getElem?_eq_getElem h2
        obtain ⟨x, hx⟩ : ∃ x, l[k] = x := ⟨_, rfl⟩
        obtain ⟨y, hy⟩ : ∃ y, m[k] = y := ⟨_, rfl⟩
        rw [hx] at d0 e1 r0 hl1
        rw [hy] at d1 e2 r1
        have HI := hide (fun (w' : World) (hx : Ext wr w') => same13_any sa sb x y sca scb w' hl1 ((r0.ext HX.out).ext hx) ((r1.ext HX.out).ext hx))
        have E1 := hide e1
        have E2 := hide e2
        clear h1 h2 ca cb hx hy e1 e2 c0 c1 r0 r1 hl1
        by_cases hxy : x = y
        · have HN1 : Hid (l.take (k + 1) = m.take (k + 1)) := hide (by rw [List.take_add_one, List.take_add_one, E1.out, E2.out, HT.out, hxy])
          have hb1 : decide (x = y) = true := by simpa using hxy
          rw [hb1] at HI
          clear hxy hb1
          go_wp2_with fail
          refine seqH_start (S := (fun W => (∀ b o, b < wr.heap.size → W.cell? ⟨b, o, none⟩ = wr.cell? ⟨b, o, none⟩) ∧ Ext wr W)) [(0, true), (1, true), (2, true), (3, true), (4, true), (5, true), (6, true), (7, true), (8, false), (9, true)] (by kernel_rfl) (by kernel_rfl) (by kernel_rfl) (by decide) (fun _ _ d _ _ h => by cases d <;> exact h) (by first | with_reducible exact pr_start _ | exact pr_of (by (with_reducible (repeat' (first | exact Ext.refl _ | assumption | refine Ext.drew ?_ | refine Ext.drewN ?_ _ | refine Ext.alloc ?_ _ | refine Ext.setCell ?_ ?_ _ | refine Ext.trans ?_ (by assumption)))); all_goals (first | (simp; done) | (simp; omega)))) (fun hHeld => ?_)
          iterate 8 (apply SeqH.free; (· (simp only [List.getElem?_toArray, List.getElem?_cons_succ, List.getElem?_cons_zero]; rfl)); (· first | exact Or.inr ⟨by rfl, rfl⟩ | (refine Or.inl ⟨by rfl, ?_⟩; intro w hSw; (try dsimp only at hSw); go_simp; try with_reducible rfl)); try simp only [Act.put, List.setIfInBounds_toArray, List.set_cons_zero, List.set_cons_succ])
          (apply SeqH.step; (· (simp only [List.getElem?_toArray, List.getElem?_cons_succ, List.getElem?_cons_zero]; rfl)); intro K hK; go_simp; refine (HI.out _ (by (with_reducible (repeat' (first | exact Ext.refl _ | assumption | refine Ext.drew ?_ | refine Ext.drewN ?_ _ | refine Ext.alloc ?_ _ | refine Ext.setCell ?_ ?_ _ | refine Ext.trans ?_ (by assumption)))); all_goals (first | (simp; done) | (simp; omega)))).mono ?_; rintro e w9 ⟨rfl, hb9⟩; go_wp2_with fail; refine hK.out _ _ (pr_of (by (with_reducible (repeat' (first | exact Ext.refl _ | assumption | refine Ext.drew ?_ | refine Ext.drewN ?_ _ | refine Ext.alloc ?_ _ | refine Ext.setCell ?_ ?_ _ | refine Ext.trans ?_ (by assumption)))); all_goals (first | (simp; done) | (simp; omega)))) (fun hHeld => ?_); clear hK K; try simp only [Act.put, List.setIfInBounds_toArray, List.set_cons_zero, List.set_cons_succ])
          iterate 1 (apply SeqH.free; (· (simp only [List.getElem?_toArray, List.getElem?_cons_succ, List.getElem?_cons_zero]; rfl)); (· first | exact Or.inr ⟨by rfl, rfl⟩ | (refine Or.inl ⟨by rfl, ?_⟩; intro w hSw; (try dsimp only at hSw); go_simp; try with_reducible rfl)); try simp only [Act.put, List.setIfInBounds_toArray, List.set_cons_zero, List.set_cons_succ])
          refine SeqH.done ?_
          have hx := HX.out.trans hHeld.2
          clear hHeld hb9
          go_wp2
          go_roundw
          case rel => exact ⟨k + 1, hlt, by go_num, HN1.out, (by (with_reducible (repeat' (first | exact Ext.refl _ | assumption | refine Ext.drew ?_ | refine Ext.drewN ?_ _ | refine Ext.alloc ?_ _ | refine Ext.setCell ?_ ?_ _ | refine Ext.trans ?_ (by assumption)))); all_goals (first | (simp; done) | (simp; omega)))⟩
          case measure => simp [intOf]; omega
        · have HF : Hid (decide (l = m) = false) := hide (by simp only [decide_eq_false_iff_not]; intro e; rw [e, E2.out] at E1; exact hxy (Option.some.inj E1.out).symm)
          have hb1 : decide (x = y) = false := by simpa using hxy
          rw [hb1] at HI
          clear hxy hb1
          go_wp2_with fail
          refine seqH_start (S := (fun W => (∀ b o, b < wr.heap.size → W.cell? ⟨b, o, none⟩ = wr.cell? ⟨b, o, none⟩) ∧ Ext wr W)) [(0, true), (1, true), (2, true), (3, true), (4, true), (5, true), (6, true), (7, true), (8, false), (9, true)] (by kernel_rfl) (by kernel_rfl) (by kernel_rfl) (by decide) (fun _ _ d _ _ h => by cases d <;> exact h) (by first | with_reducible exact pr_start _ | exact pr_of (by (with_reducible (repeat' (first | exact Ext.refl _ | assumption | refine Ext.drew ?_ | refine Ext.drewN ?_ _ | refine Ext.alloc ?_ _ | refine Ext.setCell ?_ ?_ _ | refine Ext.trans ?_ (by assumption)))); all_goals (first | (simp; done) | (simp; omega)))) (fun hHeld => ?_)
          iterate 8 (apply SeqH.free; (· (simp only [List.getElem?_toArray, List.getElem?_cons_succ, List.getElem?_cons_zero]; rfl)); (· first | exact Or.inr ⟨by rfl, rfl⟩ | (refine Or.inl ⟨by rfl, ?_⟩; intro w hSw; (try dsimp only at hSw); go_simp; try with_reducible rfl)); try simp only [Act.put, List.setIfInBounds_toArray, List.set_cons_zero, List.set_cons_succ])
          (apply SeqH.step; (· (simp only [List.getElem?_toArray, List.getElem?_cons_succ, List.getElem?_cons_zero]; rfl)); intro K hK; go_simp; refine (HI.out _ (by (with_reducible (repeat' (first | exact Ext.refl _ | assumption | refine Ext.drew ?_ | refine Ext.drewN ?_ _ | refine Ext.alloc ?_ _ | refine Ext.setCell ?_ ?_ _ | refine Ext.trans ?_ (by assumption)))); all_goals (first | (simp; done) | (simp; omega)))).mono ?_; rintro e w9 ⟨rfl, hb9⟩; go_wp2_with fail; refine hK.out _ _ (pr_of (by (with_reducible (repeat' (first | exact Ext.refl _ | assumption | refine Ext.drew ?_ | refine Ext.drewN ?_ _ | refine Ext.alloc ?_ _ | refine Ext.setCell ?_ ?_ _ | refine Ext.trans ?_ (by assumption)))); all_goals (first | (simp; done) | (simp; omega)))) (fun hHeld => ?_); clear hK K; try simp only [Act.put, List.setIfInBounds_toArray, List.set_cons_zero, List.set_cons_succ])
          iterate 1 (apply SeqH.free; (· (simp only [List.getElem?_toArray, List.getElem?_cons_succ, List.getElem?_cons_zero]; rfl)); (· first | exact Or.inr ⟨by rfl, rfl⟩ | (refine Or.inl ⟨by rfl, ?_⟩; intro w hSw; (try dsimp only at hSw); go_simp; try with_reducible rfl)); try simp only [Act.put, List.setIfInBounds_toArray, List.set_cons_zero, List.set_cons_succ])
          refine SeqH.done ?_
          have hx := HX.out.trans hHeld.2
          clear hHeld hb9
          go_wp2
          go_ret
          exact ⟨by rw [HF.out] <;> rfl, (by (with_reducible (repeat' (first | exact Ext.refl _ | assumption | refine Ext.drew ?_ | refine Ext.drewN ?_ _ | refine Ext.alloc ?_ _ | refine Ext.setCell ?_ ?_ _ | refine Ext.trans ?_ (by assumption)))); all_goals (first | (simp; done) | (simp; omega)))⟩
      · obtain rfl : n = k := by omega
        have HF : Hid (decide (l = m) = true) := hide (by
          have h := HT.out
          rw [List.take_of_length_le (by rw [HN.out]; exact Nat.le_refl _), List.take_of_length_le (by rw [← HLM.out, HN.out]; exact Nat.le_refl _)] at h
          simpa using h)
        have hx := HX.out
        go_wp2
        go_ret
        exact ⟨by rw [HF.out] <;> rfl, (by (with_reducible (repeat' (first | exact Ext.refl _ | assumption | refine Ext.drew ?_ | refine Ext.drewN ?_ _ | refine Ext.alloc ?_ _ | refine Ext.setCell ?_ ?_ _ | refine Ext.trans ?_ (by assumption)))); all_goals (first | (simp; done) | (simp; omega)))⟩
  · have HF : Hid (decide (l = m) = false) := hide (by simp only [decide_eq_false_iff_not]; intro e; exact hlen (by rw [e]))
    have hb0 : ((l.length : Int) != (m.length : Int)) = true := by simp; omega
    obtain ⟨n, hn⟩ : ∃ n, l.length = n := ⟨_, rfl⟩
    obtain ⟨n2, hn2⟩ : ∃ n, m.length = n := ⟨_, rfl⟩
    have hb1 : (n != n2) = true := by simp; omega
    rw [hn, hn2] at hb0 ⊢
    clear ha hb hlen hn hn2 hs
    go_enter Try.func30, Try.ntmps30
    go_wp2
    go_ret
    exact ⟨by rw [HF.out] <;> rfl, (by (with_reducible (repeat' (first | exact Ext.refl _ | assumption | refine Ext.drew ?_ | refine Ext.drewN ?_ _ | refine Ext.alloc ?_ _ | refine Ext.setCell ?_ ?_ _ | refine Ext.trans ?_ (by assumption)))); all_goals (first | (simp; done) | (simp; omega)))⟩

set_option maxRecDepth 100000 in
theorem equalRows_any (a b : Option Addr) (l m : List (List Int)) (c d : Nat) (w : World) (hl : l.length ≤ 1000000) (ha : RowsU w a l) (hb : RowsU w b m) (hs : ∀ r, r ∈ l → r.length ≤ 1000000) :
    Calls Try.prog 84 #[.slice a l.length c, .slice b m.length d, .func (.func 85) #[] #[]] w fun e w' => e = .returned (.bool (decide (l = m))) ∧ Ext w w' := by
  by_cases hlen : l.length = m.length
  · have HS := hide hs
    have HA := hide ha
    have HB := hide hb
    have HLM := hide hlen
    obtain ⟨n, hn⟩ : ∃ n, l.length = n := ⟨_, rfl⟩
    have HN := hide hn
    rw [← hlen, hn]
    rw [hn] at hl
    clear ha hb hlen hn hs
    go_enter Try.func84, Try.ntmps84
    go_wp2_with fail
    go_loopw [17] (fun i wr => ∃ k : Nat, k ≤ n ∧ i = .int .i64 k ∧ l.take k = m.take k ∧ Ext w wr) (fun i _ => n - (intOf i).toNat)
    case atStart => exact ⟨0, Nat.zero_le _, rfl, rfl, (by (with_reducible (repeat' (first | exact Ext.refl _ | assumption | refine Ext.drew ?_ | refine Ext.drewN ?_ _ | refine Ext.alloc ?_ _ | refine Ext.setCell ?_ ?_ _ | refine Ext.trans ?_ (by assumption)))); all_goals (first | (simp; done) | (simp; omega)))⟩
    case round =>
      obtain ⟨k, hk, rfl, htk, hx⟩ := hrel
      have HT := hide htk
      have HX := hide hx
      clear htk hx
      by_cases hlt : k < n
      · have h1 : k < l.length := by rw [HN.out]; exact hlt
        have h2 : k < m.length := by rw [← HLM.out]; exact h1
        obtain ⟨ba, oa, rfl, za, ca⟩ := HA.out (by omega)
        obtain ⟨bb, ob, rfl, zb, cb⟩ := HB.out (by omega)
        obtain ⟨sa, sca, c0, r0⟩ := ca k h1
        obtain ⟨sb, scb, c1, r1⟩ := cb k h2
        have d0 := (HX.out.cell (p := ⟨ba, oa + k, none⟩) za).trans c0
        have d1 := (HX.out.cell (p := ⟨bb, ob + k, none⟩) zb).trans c1
        have hl1 := HS.out l[k] (List.getElem_mem h1)
        have z0 : ba < wr.heap.size := Nat.lt_of_lt_of_le za HX.out.size
        have z1 : bb < wr.heap.size := Nat.lt_of_lt_of_le zb HX.out.size
        have jk : (k : Int) < (n : Int) := by omega
        have e1 : l[k]? = some l[k] := List.getElem?_eq_getElem h1
        have e2 : m[k]? = some m[k] := List.getElem?_eq_getElem h2
        obtain ⟨x, hx⟩ : ∃ x, l[k] = x := ⟨_, rfl⟩
        obtain ⟨y, hy⟩ : ∃ y, m[k] = y := ⟨_, rfl⟩
        rw [hx] at d0 e1 r0 hl1
        rw [hy] at d1 e2 r1
        have HI := hide (fun (w' : World) (hx : Ext wr w') => equalU64_any sa sb x y sca scb w' hl1 ((r0.ext HX.out).ext hx) ((r1.ext HX.out).ext hx))
        have E1 := hide e1
        have E2 := hide e2
        clear h1 h2 ca cb hx hy e1 e2 c0 c1 r0 r1 hl1
        by_cases hxy : x = y
        · have HN1 : Hid (l.take (k + 1) = m.take (k + 1)) := hide (by rw [List.take_add_one, List.take_add_one, E1.out, E2.out, HT.out, hxy])
          have hb1 : decide (x = y) = true := by simpa using hxy
          rw [hb1] at HI
          clear hxy hb1
          go_wp2_with fail
          refine (HI.out _ (by (with_reducible (repeat' (first | exact Ext.refl _ | assumption | refine Ext.drew ?_ | refine Ext.drewN ?_ _ | refine Ext.alloc ?_ _ | refine Ext.setCell ?_ ?_ _ | refine Ext.trans ?_ (by assumption)))); all_goals (first | (simp; done) | (simp; omega)))).mono ?_
          rintro e w9 ⟨rfl, hb9⟩
          have hx := HX.out.trans (show Ext wr w9 from (by (with_reducible (repeat' (first | exact Ext.refl _ | assumption | refine Ext.drew ?_ | refine Ext.drewN ?_ _ | refine Ext.alloc ?_ _ | refine Ext.setCell ?_ ?_ _ | refine Ext.trans ?_ (by assumption)))); all_goals (first | (simp; done) | (simp; omega))))
          go_wp2
          go_roundw
          case rel => exact ⟨k + 1, hlt, by go_num, HN1.out, (by (with_reducible (repeat' (first | exact Ext.refl _ | assumption | refine Ext.drew ?_ | refine Ext.drewN ?_ _ | refine Ext.alloc ?_ _ | refine Ext.setCell ?_ ?_ _ | refine Ext.trans ?_ (by assumption)))); all_goals (first | (simp; done) | (simp; omega)))⟩
          case measure => simp [intOf]; omega
        · have HF : Hid (decide (l = m) = false) := hide (by simp only [decide_eq_false_iff_not]; intro e; rw [e, E2.out] at E1; exact hxy (Option.some.inj E1.out).symm)
          have hb1 : decide (x = y) = false := by simpa using hxy
          rw [hb1] at HI
          clear hxy hb1
          go_wp2_with fail
          refine (HI.out _ (by (with_reducible (repeat' (first | exact Ext.refl _ | assumption | refine Ext.drew ?_ | refine Ext.drewN ?_ _ | refine Ext.alloc ?_ _ | refine Ext.setCell ?_ ?_ _ | refine Ext.trans ?_ (by assumption)))); all_goals (first | (simp; done) | (simp; omega)))).mono ?_
          rintro e w9 ⟨rfl, hb9⟩
          have hx := HX.out.trans (show Ext wr w9 from (by (with_reducible (repeat' (first | exact Ext.refl _ | assumption | refine Ext.drew ?_ | refine Ext.drewN ?_ _ | refine Ext.alloc ?_ _ | refine Ext.setCell ?_ ?_ _ | refine Ext.trans ?_ (by assumption)))); all_goals (first | (simp; done) | (simp; omega))))
          go_wp2
          go_ret
          exact ⟨by rw [HF.out] <;> rfl, (by (with_reducible (repeat' (first | exact Ext.refl _ | assumption | refine Ext.drew ?_ | refine Ext.drewN ?_ _ | refine Ext.alloc ?_ _ | refine Ext.setCell ?_ ?_ _ | refine Ext.trans ?_ (by assumption)))); all_goals (first | (simp; done) | (simp; omega)))⟩
      · obtain rfl : n = k := by omega
        have HF : Hid (decide (l = m) = true) := hide (by
          have h := HT.out
          rw [List.take_of_length_le (by rw [HN.out]; exact Nat.le_refl _), List.take_of_length_le (by rw [← HLM.out, HN.out]; exact Nat.le_refl _)] at h
          simpa using h)
        have hx := HX.out
        go_wp2
        go_ret
        exact ⟨by rw [HF.out] <;> rfl, (by (with_reducible (repeat' (first | exact Ext.refl _ | assumption | refine Ext.drew ?_ | refine Ext.drewN ?_ _ | refine Ext.alloc ?_ _ | refine Ext.setCell ?_ ?_ _ | refine Ext.trans ?_ (by assumption)))); all_goals (first | (simp; done) | (simp; omega)))⟩
  · have HF : Hid (decide (l = m) = false) := hide (by simp only [decide_eq_false_iff_not]; intro e; exact hlen (by rw [e]))
    have hb0 : ((l.length : Int) != (m.length : Int)) = true := by simp; omega
    obtain ⟨n, hn⟩ : ∃ n, l.length = n := ⟨_, rfl⟩
    obtain ⟨n2, hn2⟩ : ∃ n, m.length = n := ⟨_, rfl⟩
    have hb1 : (n != n2) = true := by simp; omega
    rw [hn, hn2] at hb0 ⊢
    clear ha hb hlen hn hn2 hs
    go_enter Try.func84, Try.ntmps84
    go_wp2
    go_ret
    exact ⟨by rw [HF.out] <;> rfl, (by (with_reducible (repeat' (first | exact Ext.refl _ | assumption | refine Ext.drew ?_ | refine Ext.drewN ?_ _ | refine Ext.alloc ?_ _ | refine Ext.setCell ?_ ?_ _ | refine Ext.trans ?_ (by assumption)))); all_goals (first | (simp; done) | (simp; omega)))⟩
end Go.Proofs.Ytifbmapianddcaa
