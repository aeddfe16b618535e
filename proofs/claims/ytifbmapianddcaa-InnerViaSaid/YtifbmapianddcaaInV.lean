/- Walks of sat.Via, and what it calls. -/
import Derived.Test.YtifbmapianddcaaInH
import Derived.Test.YtifbmapianddcaaViaP
import Derived.Test.YtifbmapianddcaaFarW
set_option linter.all false
set_option linter.unusedVariables false
set_option linter.unusedSimpArgs false
namespace Go.Proofs.Ytifbmapianddcaa
open Go.RowKit

/-- Costs are such. -/
def Costs (l : List Int) : Prop := ∀ x, x ∈ l → 0 ≤ x ∧ x ≤ infI

set_option maxRecDepth 100000 in
set_option maxHeartbeats 1000000 in
theorem satVia1_any {w : World} {ab tb : Nat} {a ra : Option Addr} {l : List Int} {ll : List (List Int)} {c rc m : Nat} (k : Nat) (hk : k < m) (hlm : l.length = m) (hllm : ll.length = m) (hr : ∀ r, r ∈ ll → r.length = m ∧ Costs r) (hcl : Costs l) (hm : m ≤ 1000000)
    (h1 : w.cell? ⟨ab, 0, none⟩ = some (.slice a m c)) (h2 : w.cell? ⟨tb, 0, none⟩ = some (.slice ra m rc)) (ha : RowU w a l) (hra : RowsU w ra ll) :
    Calls Try.prog 87 (#[.int .i64 (k : Int)] ++ #[.pointer (some ⟨ab, 0, none⟩), .pointer (some ⟨tb, 0, none⟩)]) w fun e w' => e = .returned (.int .u64 (viaN l ll k m)) ∧ Ext w w' := by
  have HLM := hide hlm
  have HLLM := hide hllm
  have HR := hide hr
  have HCL := hide hcl
  have HA := hide ha
  have HRA := hide hra
  have z1 := World.block_lt_of_cell? w _ h1
  have z2 := World.block_lt_of_cell? w _ h2
  simp only at z1 z2
  have HV := hide (fun n (hn : n < m) (w' : World) => satAdd_any (l.getD n 0) ((ll.getD n []).getD k 0) w')
  obtain ⟨V, hV⟩ : ∃ V, viaN l ll k = V := ⟨_, rfl⟩
  have HV0 : Hid (V 0 = infI) := hide (by rw [← hV]; rfl)
  have HVS : Hid (∀ n, V (n + 1) = min (V n) (satS (l.getD n 0) ((ll.getD n []).getD k 0))) := hide (fun n => by rw [← hV]; rfl)
  rw [hV]
  clear hV hlm hllm hr hcl ha hra
  simp only [Array.append_eq_append, List.append_toArray, List.cons_append, List.nil_append] at *
  go_enter Try.func87, Try.ntmps87
  go_wp2_with fail
  go_loopw [5, 10] (fun bv iv wr => ∃ n : Nat, n ≤ m ∧ iv = .int .i64 n ∧ bv = .int .u64 (V n) ∧ Ext w wr) (fun _ iv _ => m - (intOf iv).toNat)
  case atStart => exact ⟨0, Nat.zero_le _, rfl, by rw [HV0.out]; rfl, (by (with_reducible (repeat' (first | exact Ext.refl _ | assumption | refine Ext.drew ?_ | refine Ext.drewN ?_ _ | refine Ext.alloc ?_ _ | refine Ext.setCell ?_ ?_ _ | refine Ext.trans ?_ (by assumption)))); all_goals (first | (simp; done) | (simp; omega)))⟩
  case round =>
    obtain ⟨n, hn, rfl, rfl, hx⟩ := hrel
    have X := hide hx
    by_cases hlt : n < m
    · have hnl : n < l.length := by rw [HLM.out]; exact hlt
      have hnll : n < ll.length := by rw [HLLM.out]; exact hlt
      obtain ⟨b1, o1, rfl, zb1, hb1⟩ := HA.out (by omega)
      obtain ⟨b2, o2, rfl, zb2, hb2⟩ := HRA.out (by omega)
      obtain ⟨sa, sc, hsa, hsu⟩ := hb2 n hnll
      have hrr := HR.out ll[n] (List.getElem_mem hnll)
      rw [hrr.1] at hsa
      obtain ⟨b3, o3, rfl, zb3, hb3⟩ := hsu (by rw [hrr.1]; omega)
      have hkr : k < (ll[n]).length := by rw [hrr.1]; exact hk
      have g1 : l.getD n 0 = l[n] := by simp [List.getD_eq_getElem?_getD, hnl]
      have g2 : (ll.getD n []).getD k 0 = (ll[n])[k] := by simp [List.getD_eq_getElem?_getD, hnll, hkr]
      have bd1 := HCL.out l[n] (List.getElem_mem hnl)
      have bd2 := hrr.2 (ll[n])[k] (List.getElem_mem hkr)
      have eI : infI = 18446744073709551615 := rfl
      rw [eI] at bd1 bd2
      have HSA := hide (fun (w' : World) => HV.out n hlt w' (by rw [g1]; exact bd1.1) (by rw [g2]; exact bd2.1) (by rw [g1]; exact bd1.2) (by rw [g2]; exact bd2.2))
      have HN := hide (HVS.out n)
      have c1 := (hx.cell (p := ⟨b1, o1 + n, none⟩) zb1).trans (hb1 n hnl)
      have c2 := (hx.cell (p := ⟨b2, o2 + n, none⟩) zb2).trans hsa
      have c3 := (hx.cell (p := ⟨b3, o3 + k, none⟩) zb3).trans (hb3 k hkr)
      rw [← g1] at c1
      rw [← g2] at c3
      obtain ⟨u, hu⟩ : ∃ z, l.getD n 0 = z := ⟨_, rfl⟩
      obtain ⟨v, hv⟩ : ∃ z, (ll.getD n []).getD k 0 = z := ⟨_, rfl⟩
      rw [hu, hv] at HSA HN
      rw [hu] at c1
      rw [hv] at c3
      obtain ⟨sv, hsv⟩ : ∃ z, satS u v = z := ⟨_, rfl⟩
      change Hid (∀ w', Calls Try.prog 88 #[.int .u64 u, .int .u64 v] w' fun e w2 => e = .returned (.int .u64 (satS u v)) ∧ Ext w' w2) at HSA
      rw [hsv] at HSA HN
      obtain ⟨q, hq⟩ : ∃ z, V n = z := ⟨_, rfl⟩
      rw [hq] at HN ⊢
      have d1 := (hx.cell (p := ⟨ab, 0, none⟩) z1).trans h1
      have d2 := (hx.cell (p := ⟨tb, 0, none⟩) z2).trans h2
      have y1 : b1 < wr.heap.size := Nat.lt_of_lt_of_le zb1 hx.size
      have y2 : b2 < wr.heap.size := Nat.lt_of_lt_of_le zb2 hx.size
      have y3 : b3 < wr.heap.size := Nat.lt_of_lt_of_le zb3 hx.size
      have y4 : ab < wr.heap.size := Nat.lt_of_lt_of_le z1 hx.size
      have y5 : tb < wr.heap.size := Nat.lt_of_lt_of_le z2 hx.size
      have jn : (n : Int) < (m : Int) := by omega
      have jk : (k : Int) < (m : Int) := by omega
      clear hnl hnll hb1 hb2 hsa hsu hrr hb3 hkr g1 g2 bd1 bd2 eI hu hv hsv hq h1 h2 hx
      go_wp2_with fail
      refine (HSA.out _).mono ?_
      rintro e w5 ⟨rfl, hb5⟩
      by_cases hle : q ≤ sv
      · have e1 : min q sv = q := Int.min_eq_left hle
        rw [e1] at HN
        go_wp2_with fail
        all_goals go_roundw
        all_goals first | (case rel => exact ⟨n + 1, hlt, by go_num, by rw [HN.out], X.out.trans (by (with_reducible (repeat' (first | exact Ext.refl _ | assumption | refine Ext.drew ?_ | refine Ext.drewN ?_ _ | refine Ext.alloc ?_ _ | refine Ext.setCell ?_ ?_ _ | refine Ext.trans ?_ (by assumption)))); all_goals (first | (simp; done) | (simp; omega)))⟩) | skip
        all_goals first | (case measure => simp [intOf]; omega) | skip
      · have e1 : min q sv = sv := Int.min_eq_right (by omega)
        rw [e1] at HN
        go_wp2_with fail
        all_goals go_roundw
        all_goals first | (case rel => exact ⟨n + 1, hlt, by go_num, by rw [HN.out], X.out.trans (by (with_reducible (repeat' (first | exact Ext.refl _ | assumption | refine Ext.drew ?_ | refine Ext.drewN ?_ _ | refine Ext.alloc ?_ _ | refine Ext.setCell ?_ ?_ _ | refine Ext.trans ?_ (by assumption)))); all_goals (first | (simp; done) | (simp; omega)))⟩) | skip
        all_goals first | (case measure => simp [intOf]; omega) | skip
    · obtain rfl : n = m := by omega
      go_wp2_with fail
      go_ret
      exact ⟨rfl, X.out.trans (by (with_reducible (repeat' (first | exact Ext.refl _ | assumption | refine Ext.drew ?_ | refine Ext.drewN ?_ _ | refine Ext.alloc ?_ _ | refine Ext.setCell ?_ ?_ _ | refine Ext.trans ?_ (by assumption)))); all_goals (first | (simp; done) | (simp; omega)))⟩

set_option maxRecDepth 100000 in
set_option maxHeartbeats 1000000 in
theorem satEach_any {w : World} (n : Nat) {f : Nat} {caps : Array Value} {g : Nat → Int} (hn : n ≤ 100000)
    (hf : ∀ w', Ext w w' → ∀ k, k < n → Calls Try.prog f (#[.int .i64 (k : Int)] ++ caps) w' fun e w2 => e = .returned (.int .u64 (g k)) ∧ Ext w' w2)
    (eg : ∀ args w, (callFunc f args).run Try.prog w = .ok (.enter f args) w) :
    Calls Try.prog 86 #[.int .i64 (n : Int), .func (.func f) #[] caps] w fun e w' => ∃ v, e = .returned v ∧ Ext w w' ∧ Own u64E w' w.heap.size 38 v ((List.range n).map g) := by
  have HF := hide hf
  clear hf
  go_enter Try.func86, Try.ntmps86
  go_wp2_with (at_make; refine wpList_make_one u64E T_u64s 0 rfl rfl rfl rfl _ _ rfl w.heap.size n rfl rfl hn (by decide) (Nat.le_refl _) ?_)
  intro g0 w1 hg0 ho1 hx1
  rw [far_zero] at ho1
  have O1 := hide (show FarAt w1 w.heap.size g0 n (fillF 0) n from ho1)
  have X1 := hide hx1
  have Z1 : w.heap.size ≤ g0 := by omega
  clear ho1 hx1 hg0
  go_wp2_with fail
  go_loopw [11] (fun iv wr => ∃ k : Nat, k ≤ n ∧ iv = .int .i64 k ∧ (∃ far, FarAt wr w.heap.size g0 n far n ∧ ∀ j, j < k → far j = g j) ∧ Ext w wr) (fun iv _ => n - (intOf iv).toNat)
  case atStart => exact ⟨0, Nat.zero_le _, rfl, ⟨_, O1.out, fun j h => absurd h (Nat.not_lt_zero j)⟩, X1.out⟩
  case round =>
    obtain ⟨k, hk, rfl, ⟨far, hfa, hfg⟩, hx⟩ := hrel
    have FA := hide hfa
    have FG := hide hfg
    have X := hide hx
    clear hfa hfg
    by_cases hlt : k < n
    · have HQ := hide (fun w' (hx : Ext wr w') => HF.out w' (X.out.trans hx) k hlt)
      have jk : (k : Int) < (n : Int) := by omega
      clear hx
      go_wp2_with fail
      refine (HQ.out _ (by (with_reducible (repeat' (first | exact Ext.refl _ | assumption | refine Ext.drew ?_ | refine Ext.drewN ?_ _ | refine Ext.alloc ?_ _ | refine Ext.setCell ?_ ?_ _ | refine Ext.trans ?_ (by assumption)))); all_goals (first | (simp; done) | (simp; omega)))).mono ?_
      rintro e w2 ⟨rfl, hb2⟩
      have hx2 : Ext wr w2 := (by (with_reducible (repeat' (first | exact Ext.refl _ | assumption | refine Ext.drew ?_ | refine Ext.drewN ?_ _ | refine Ext.alloc ?_ _ | refine Ext.setCell ?_ ?_ _ | refine Ext.trans ?_ (by assumption)))); all_goals (first | (simp; done) | (simp; omega)))
      have F2 := hide (FA.out.ext hx2)
      have X2 := hide (X.out.trans hx2)
      have c0 := (F2.out.cell hlt).1
      have c1 := (F2.out.cell hlt).2
      have cz := F2.out.lt.2
      clear hb2 hx2
      go_wp2_with fail
      go_roundw
      case rel => exact ⟨k + 1, hlt, by go_num, ⟨_, F2.out.turn hlt (g k), fun j hj => by
        unfold updF
        by_cases e : j = k
        · rw [if_pos e, e]
        · rw [if_neg e]; exact FG.out j (by omega)⟩, X2.out.setCell (p := ⟨g0, k, none⟩) Z1 _⟩
      case measure => simp [intOf]; omega
    · obtain rfl : k = n := by omega
      have hfin : Own u64E wr w.heap.size 38 (.slice (some ⟨g0, 0, none⟩) k k) ((List.range k).map g) := by
        have h : FarAt wr w.heap.size g0 k g k := FA.out.congr FG.out
        exact h
      have HFIN := hide hfin
      clear hfin hx
      go_wp2_with fail
      go_ret
      exact ⟨_, rfl, X.out, HFIN.out⟩

set_option maxRecDepth 100000 in
set_option maxHeartbeats 1000000 in
theorem satVia_ok {w : World} {a ra : Option Addr} {l : List Int} {ll : List (List Int)} {c rc m : Nat} (h0 : 0 < m) (hlm : l.length = m) (hllm : ll.length = m) (hr : ∀ r, r ∈ ll → r.length = m ∧ Costs r) (hcl : Costs l) (hm : m ≤ 1000) (ha : RowU w a l) (hra : RowsU w ra ll) :
    Calls Try.prog 37 #[.slice a m c, .slice ra m rc] w fun e w' => ∃ v, e = .returned (.tuple #[v, .int .i64 0]) ∧ Ext w w' ∧ Own u64E w' w.heap.size 38 v ((List.range m).map fun k => viaN l ll k m) := by
  have HF := hide (fun (w1 : World) (hx : Ext w w1) (h1 : w1.cell? ⟨w.heap.size, 0, none⟩ = some (.slice a m c)) (h2 : w1.cell? ⟨w.heap.size + 1, 0, none⟩ = some (.slice ra m rc)) =>
    satEach_any (w := w1) m (f := 87) (caps := #[.pointer (some ⟨w.heap.size, 0, none⟩), .pointer (some ⟨w.heap.size + 1, 0, none⟩)]) (g := fun k => viaN l ll k m) (by omega) (fun w' hx' k hk =>
      satVia1_any (w := w') k hk hlm hllm hr hcl (by omega) ((hx'.cell (p := ⟨w.heap.size, 0, none⟩) (World.block_lt_of_cell? w1 ⟨w.heap.size, 0, none⟩ h1)).trans h1) ((hx'.cell (p := ⟨w.heap.size + 1, 0, none⟩) (World.block_lt_of_cell? w1 ⟨w.heap.size + 1, 0, none⟩ h2)).trans h2) ((ha.ext hx).ext hx') ((hra.ext hx).ext hx')) (enters_of Try.func87 (by kernel_rfl) rfl))
  have HRA := hide hra
  have HLLM := hide hllm
  have HRL := hide (fun r hr' => (hr r hr').1 : ∀ r, r ∈ ll → r.length = m)
  obtain ⟨RS, hRS⟩ : ∃ z, (List.range m).map (fun k => viaN l ll k m) = z := ⟨_, rfl⟩
  rw [hRS] at HF ⊢
  have hn0 : ((m : Int) == 0) = false := by rw [beq_eq_false_iff_ne]; omega
  clear hlm hllm hr hcl ha hra hRS
  go_enter Try.func37, Try.ntmps37
  go_wp2_with fail
  obtain ⟨w1, hw1⟩ : ∃ z, z = (w.alloc (.cells #[.slice a m c] 33)).alloc (.cells #[.slice ra m rc] 55) := ⟨_, rfl⟩
  have hx1 : Ext w w1 := by rw [hw1]; exact (by (with_reducible (repeat' (first | exact Ext.refl _ | assumption | refine Ext.drew ?_ | refine Ext.drewN ?_ _ | refine Ext.alloc ?_ _ | refine Ext.setCell ?_ ?_ _ | refine Ext.trans ?_ (by assumption)))); all_goals (first | (simp; done) | (simp; omega)))
  have B0 := hide (show Blk w1 w.heap.size 33 #[.slice a m c] by rw [hw1]; exact (Blk.new_ rfl).over)
  have B1 := hide (show Blk w1 (w.heap.size + 1) 55 #[.slice ra m rc] by rw [hw1]; exact Blk.new_ (by simp))
  have X1 := hide hx1
  rw [← hw1]
  clear hw1 hx1
  go_loopw [7, 18] (fun rv iv wr => ∃ k : Nat, k ≤ m ∧ iv = .int .i64 k ∧ Ext w1 wr) (fun _ iv _ => m - (intOf iv).toNat)
  case atStart => exact ⟨0, Nat.zero_le _, rfl, Ext.refl _⟩
  case round =>
    obtain ⟨k, hk, rfl, hx⟩ := hrel
    have X := hide hx
    have C0 := hide (B0.out.ext hx)
    have C1 := hide (B1.out.ext hx)
    obtain ⟨b2, o2, rfl, zb2, hb2⟩ := HRA.out (by rw [HLLM.out]; exact h0)
    obtain ⟨s0, t0, hs0, _⟩ := hb2 0 (by rw [HLLM.out]; exact h0)
    rw [HRL.out _ (List.getElem_mem _)] at hs0
    have hxw := X1.out.trans hx
    have c0 := (hxw.cell (p := ⟨b2, o2 + 0, none⟩) zb2).trans hs0
    rw [Nat.add_zero] at c0
    have y2 : b2 < wr.heap.size := Nat.lt_of_lt_of_le zb2 hxw.size
    have p0 := C0.out.at 0 rfl; have pz := C0.out.lt
    have q0 := C1.out.at 0 rfl; have qz := C1.out.lt
    clear hs0
    by_cases hlt : k < m
    · obtain ⟨sk, tk, hsk, _⟩ := hb2 k (by rw [HLLM.out]; exact hlt)
      rw [HRL.out _ (List.getElem_mem _)] at hsk
      have ck := (hxw.cell (p := ⟨b2, o2 + k, none⟩) zb2).trans hsk
      have jk : (k : Int) < (m : Int) := by omega
      clear hsk hb2 hx hxw
      go_wp2_with fail
      go_roundw
      case rel => exact ⟨k + 1, hlt, by go_num, X.out⟩
      case measure => simp [intOf]; omega
    · obtain rfl : k = m := by omega
      clear hb2
      go_wp2_with fail
      refine (HF.out _ hxw p0 q0).mono ?_
      rintro e w9 ⟨v9, rfl, hx9, ho9⟩
      have X9 := hide (hxw.trans hx9)
      have O9 := hide (ho9.lower (base' := w.heap.size) hxw.size)
      clear ho9 hx9
      go_wp2_with fail
      go_ret2
      exact ⟨_, rfl, X9.out, O9.out⟩
end Go.Proofs.Ytifbmapianddcaa
