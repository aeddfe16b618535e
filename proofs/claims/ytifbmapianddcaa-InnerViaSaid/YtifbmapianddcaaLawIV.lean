/- The walk of InnerVia. -/
import Derived.Test.YtifbmapianddcaaInV
import Derived.Test.YtifbmapianddcaaInN
import Derived.Test.YtifbmapianddcaaInK
import Derived.Test.YtifbmapianddcaaFloodI0
import Derived.Test.YtifbmapianddcaaInS
set_option linter.all false
set_option linter.unusedVariables false
set_option linter.unusedSimpArgs false
namespace Go.Proofs.Ytifbmapianddcaa
open Go.RowKit

set_option maxRecDepth 100000 in
theorem iv_far {w : World} (W H : Int) (a : Option Addr) (n c : Nat) (PW PH s id : Int) (ca : Option Addr) (m cc : Nat) (tx ty : Int) (h : (decide (n ≤ 260) && decide (m ≤ 60)) = false ∨ ((decide (n ≤ 260) && decide (m ≤ 60)) = true ∧ 30 < m)) :
    Calls Try.prog 9 #[.agg #[.int .i64 W, .int .i64 H, .slice a n c], .agg #[.int .i64 PW, .int .i64 PH, .int .i64 s], .agg #[.int .i64 id, .slice ca m cc, .int .i64 tx, .int .i64 ty]] w fun e w' => e = .returned (.bool true) ∧ Ext w w' := by
  have HS := hide (fun w' => small13_any W H a n c id ca m cc tx ty w')
  rcases h with h | ⟨h, h1⟩
  · rw [h] at HS
    clear h
    go_enter Try.func9, Try.ntmps9
    go_wp2_with fail
    refine (HS.out _).mono ?_
    rintro e w1 ⟨rfl, hb1⟩
    go_wp2_with (go_at_call 24; refine (awake13_any _).mono ?_; rintro e w6 ⟨rfl, hb6⟩)
    go_ret
    exact ⟨rfl, (by (with_reducible (repeat' (first | exact Ext.refl _ | assumption | refine Ext.drew ?_ | refine Ext.drewN ?_ _ | refine Ext.alloc ?_ _ | refine Ext.setCell ?_ ?_ _ | refine Ext.trans ?_ (by assumption)))); all_goals (first | (simp; done) | (simp; omega)))⟩
  · rw [h] at HS
    have d1 : decide ((30 : Int) < (m : Int)) = true := by simp; omega
    have e1 : decide (30 < m) = true := by simp; omega
    clear h h1
    go_enter Try.func9, Try.ntmps9
    go_wp2_with fail
    refine (HS.out _).mono ?_
    rintro e w1 ⟨rfl, hb1⟩
    obtain ⟨hc1, hf1⟩ := hb1.cells; have hz1 := hb1.size; (repeat (first | rw [World.size_alloc] at hz1 | rw [World.size_drew] at hz1)); have z1_0 : w.heap.size < w1.heap.size := (by omega); have z1_1 : w.heap.size + 1 < w1.heap.size := (by omega); have z1_2 : w.heap.size + 2 < w1.heap.size := (by omega)
    go_wp2_with (go_at_call 24; refine (awake13_any _).mono ?_; rintro e w6 ⟨rfl, hb6⟩)
    go_ret
    exact ⟨rfl, (by (with_reducible (repeat' (first | exact Ext.refl _ | assumption | refine Ext.drew ?_ | refine Ext.drewN ?_ _ | refine Ext.alloc ?_ _ | refine Ext.setCell ?_ ?_ _ | refine Ext.trans ?_ (by assumption)))); all_goals (first | (simp; done) | (simp; omega)))⟩

set_option maxRecDepth 100000 in
theorem iv_bad {w : World} (W H : Int) (a : Option Addr) (n c : Nat) (PW PH s id : Int) (ca : Option Addr) (cs : List Cell) (cc : Nat) (tx ty : Int) (hc : RowC w ca cs) (hl : cs.length ≤ 1000000) (hi : ∀ p ∈ cs, InI p.1 ∧ InI p.2)
    (h : (decide (n ≤ 260) && decide (cs.length ≤ 60)) = true) (h30 : ¬ 30 < cs.length) (he : innerE W H n PW PH s id cs ≠ 0) :
    Calls Try.prog 9 #[.agg #[.int .i64 W, .int .i64 H, .slice a n c], .agg #[.int .i64 PW, .int .i64 PH, .int .i64 s], .agg #[.int .i64 id, .slice ca cs.length cc, .int .i64 tx, .int .i64 ty]] w fun e w' => e = .returned (.bool true) ∧ Ext w w' := by
  have HS := hide (fun w' => small13_any W H a n c id ca cs.length cc tx ty w')
  rw [h] at HS
  have HO := hide (fun (w' : World) (hx : Ext w w') => iOf_bad (w := w') W H a n c PW PH s id ca cs cc (hc.ext hx) hl hi he)
  generalize innerE W H n PW PH s id cs = er at *
  have hb : (er != 0) = true := by simpa using he
  obtain ⟨m, hm⟩ : ∃ z, cs.length = z := ⟨_, rfl⟩
  rw [hm] at HS HO h30 ⊢
  have d1 : decide ((30 : Int) < (m : Int)) = false := by simp; omega
  have e1 : decide (30 < m) = false := by simp; omega
  clear h hc hl hi he hm h30
  go_enter Try.func9, Try.ntmps9
  go_wp2_with fail
  refine (HS.out _).mono ?_
  rintro e w1 ⟨rfl, hb1⟩
  have B0 : Hid (Blk w1 (w.heap.size) 26 #[.int .i64 W, .int .i64 H, .slice a n c]) := hide (by refine Blk.ext ?_ hb1; (repeat' (first | exact Blk.new_ (by simp) | refine Blk.drew ?_ | refine Blk.over ?_)))
  have B1 : Hid (Blk w1 (w.heap.size + 1) 51 #[.int .i64 PW, .int .i64 PH, .int .i64 s]) := hide (by refine Blk.ext ?_ hb1; (repeat' (first | exact Blk.new_ (by simp) | refine Blk.drew ?_ | refine Blk.over ?_)))
  have B2 : Hid (Blk w1 (w.heap.size + 2) 53 #[.int .i64 id, .slice ca m cc, .int .i64 tx, .int .i64 ty]) := hide (by refine Blk.ext ?_ hb1; (repeat' (first | exact Blk.new_ (by simp) | refine Blk.drew ?_ | refine Blk.over ?_)))
  have hx1 : Ext w w1 := (by (with_reducible (repeat' (first | exact Ext.refl _ | assumption | refine Ext.drew ?_ | refine Ext.drewN ?_ _ | refine Ext.alloc ?_ _ | refine Ext.setCell ?_ ?_ _ | refine Ext.trans ?_ (by assumption)))); all_goals (first | (simp; done) | (simp; omega)))
  have X1 := hide hx1
  have p0 := B0.out.at 0 rfl; have p1 := B0.out.at 1 rfl; have p2 := B0.out.at 2 rfl; have pz := B0.out.lt
  have q0 := B1.out.at 0 rfl; have q1 := B1.out.at 1 rfl; have q2 := B1.out.at 2 rfl; have qz := B1.out.lt
  have r0 := B2.out.at 0 rfl; have r1 := B2.out.at 1 rfl; have r2 := B2.out.at 2 rfl; have r3 := B2.out.at 3 rfl; have rz := B2.out.lt
  clear hb1 hx1
  go_wp2_with fail
  refine (HO.out _ (X1.out.trans (by (with_reducible (repeat' (first | exact Ext.refl _ | assumption | refine Ext.drew ?_ | refine Ext.drewN ?_ _ | refine Ext.alloc ?_ _ | refine Ext.setCell ?_ ?_ _ | refine Ext.trans ?_ (by assumption)))); all_goals (first | (simp; done) | (simp; omega))))).mono ?_
  rintro e w2 ⟨rfl, hb2⟩
  have hx2 : Ext w w2 := X1.out.trans (by (with_reducible (repeat' (first | exact Ext.refl _ | assumption | refine Ext.drew ?_ | refine Ext.drewN ?_ _ | refine Ext.alloc ?_ _ | refine Ext.setCell ?_ ?_ _ | refine Ext.trans ?_ (by assumption)))); all_goals (first | (simp; done) | (simp; omega)))
  clear p0 p1 p2 pz q0 q1 q2 qz r0 r1 r2 r3 rz B0 B1 B2 X1 hb2
  go_wp2_with (go_at_call 24; refine (awake13_any _).mono ?_; rintro e w6 ⟨rfl, hb6⟩)
  go_ret
  exact ⟨rfl, (by (with_reducible (repeat' (first | exact Ext.refl _ | assumption | refine Ext.drew ?_ | refine Ext.drewN ?_ _ | refine Ext.alloc ?_ _ | refine Ext.setCell ?_ ?_ _ | refine Ext.trans ?_ (by assumption)))); all_goals (first | (simp; done) | (simp; omega)))⟩

set_option maxRecDepth 100000 in
set_option maxHeartbeats 20000000 in
theorem iv_ok {w : World} {W H : Int} {a : Option Addr} {l : List Int} (c : Nat) {PW PH s id : Int} {ca : Option Addr} {cs : List Cell} (cc : Nat) (tx ty : Int) (hr : Row16 w a l) (hu : U16s l) (hc : RowC w ca cs) (hl : cs.length ≤ 1000000) (hi : ∀ p ∈ cs, InI p.1 ∧ InI p.2)
    (h : (decide (l.length ≤ 260) && decide (cs.length ≤ 60)) = true) (h30 : ¬ 30 < cs.length) (he : innerE W H l.length PW PH s id cs = 0) :
    Calls Try.prog 9 #[.agg #[.int .i64 W, .int .i64 H, .slice a l.length c], .agg #[.int .i64 PW, .int .i64 PH, .int .i64 s], .agg #[.int .i64 id, .slice ca cs.length cc, .int .i64 tx, .int .i64 ty]] w fun e w' => e = .returned (.bool true) ∧ Ext w w' := by
  obtain ⟨e1, rfl, rfl, e4, e5, e6⟩ := innerE_ok.1 he
  have L : boxL PW PH s id l := boxL_of e1 e4 e5 hu
  have hok := cells_ok e4 e5 e6
  have hn260 : l.length ≤ 260 := by simp at h; exact h.1
  have hw : ∀ q, q ∈ cs → lookE PW PH l.length 0 0 PW PH q.1 q.2 = 0 := fun q hq => by
    have hin := L.in_ (hok q hq)
    have wh := L.wh
    exact lookE_ok.2 ⟨L.may, L.len, fitsR_true.2 (by omega), hasB_true.2 (by omega)⟩
  have HS := hide (fun w' => small13_any PW PH a l.length c id ca cs.length cc tx ty w')
  rw [h] at HS
  have HO := hide (fun (w' : World) (hx : Ext w w') => iOf_ok (w := w') c cc (hr.ext hx) hu (hc.ext hx) hl hi he L)
  have HF := hide (fun (w' : World) (hx : Ext w w') (q : Cell) (hq : q ∈ cs) => (fFrom_ok (w := w') (x := q.1) (y := q.2) c (hw q hq) (hr.ext hx) hu).mono (R' := fun e w2 => ∃ v far, e = .returned (.tuple #[v, .int .i64 0]) ∧ Ext w' w2 ∧ Own u64E w2 w'.heap.size 38 v (farL far l.length) ∧ ∀ k, far k ≤ farD L q k) (by
    rintro e w2 ⟨v, far, h1, h2, h3, h4, h5⟩
    exact ⟨v, far, h1, h2, h3, fun k => whole_le L _ h4 k⟩))
  have HV := hide (fun (w' : World) (x y : Option Addr) (c1 c2 : Nat) (q : Cell) (h1 : RowU w' x (rowD L cs q)) (h2 : RowsU w' y (cs.map (rowD L cs))) (h0 : 0 < cs.length) => satVia_ok (w := w') (l := rowD L cs q) (ll := cs.map (rowD L cs)) (c := c1) (rc := c2) (m := cs.length) h0 (by unfold rowD; rw [List.length_map]) (List.length_map _) (fun r hr => by
    obtain ⟨z, _, rfl⟩ := List.mem_map.1 hr
    refine ⟨by unfold rowD; rw [List.length_map], fun x hx => ?_⟩
    unfold rowD at hx
    obtain ⟨y, _, rfl⟩ := List.mem_map.1 hx
    exact ⟨(farD_is L z).nn _, (farD_is L z).le _⟩) (fun x hx => by
    unfold rowD at hx
    obtain ⟨y, _, rfl⟩ := List.mem_map.1 hx
    exact ⟨(farD_is L q).nn _, (farD_is L q).le _⟩) (by omega) h1 h2)
  have HQI : Hid (∀ k, k < cs.length → ∃ (q : Cell) (r : List Int) (J : Nat) (cst d : Int), cs[k]? = some q ∧ q ∈ cs ∧ (cs.map (rowD L cs))[k]? = some r ∧ r = rowD L cs q ∧ r.length = cs.length ∧ J = idxN PW q ∧ J < l.length ∧ IntKind.i64.wrap (q.2 * PW) = q.2 * PW ∧ IntKind.i64.wrap (q.2 * PW + q.1) = (J : Int) ∧ l[J]? = some cst ∧ r[k]? = some d ∧ ((0 < cst ∧ d = 0) ∨ (cst = 0 ∧ d = infI))) := hide (fun k hk => by
    have hq : cs[k]? = some cs[k] := List.getElem?_eq_getElem hk
    have hqm : cs[k] ∈ cs := List.getElem_mem hk
    have hin := L.in_ (hok _ hqm)
    have hlt := L.idx_lt hin
    have wh := L.wh
    have hi2 := idx_int (W := PW) hin.1 wh.1 hin.2.2.1
    have m1 := mul_bd (a := cs[k].2) (b := PW) (A := 256) (B := 256) (by omega) (by omega) (by omega) (by omega)
    refine ⟨cs[k], rowD L cs cs[k], idxN PW cs[k], l.getD (idxN PW cs[k]) 0, farD L cs[k] (idxN PW cs[k]), hq, hqm, rowD_at L cs hq, rfl, by unfold rowD; rw [List.length_map], rfl, hlt, IntWalk.i64_in _ (by omega), ?_, ?_, ?_, diag L (hok _ hqm)⟩
    · rw [hi2]; exact IntWalk.i64_in _ (by omega)
    · rw [List.getD_eq_getElem?_getD, List.getElem?_eq_getElem hlt]; rfl
    · unfold rowD; rw [List.getElem?_map, hq]; rfl)
  have HFJ : Hid (∀ k j q q', cs[k]? = some q → cs[j]? = some q' → (rowD L cs q)[j]? = some (farD L q (idxN PW q')) ∧ ((List.range cs.length).map (fun z => viaN (rowD L cs q) (cs.map (rowD L cs)) z cs.length))[j]? = some (farD L q (idxN PW q'))) := hide (fun k j q q' h1 h2 => by
    have hjl := (List.getElem?_eq_some_iff.1 h2).1
    refine ⟨by unfold rowD; rw [List.getElem?_map, h2]; rfl, ?_⟩
    rw [List.getElem?_map, List.getElem?_range hjl]
    simp only [Option.map_some]
    rw [via_same L (by omega) cs h1 h2])
  have HLR : Hid ((cs.map (rowD L cs)).length = cs.length) := hide (List.length_map _)
  have HRL : Hid (∀ r, r ∈ cs.map (rowD L cs) → r.length = cs.length) := hide (fun r hr => by
    obtain ⟨z, _, rfl⟩ := List.mem_map.1 hr
    unfold rowD; rw [List.length_map])
  have HVL : Hid (∀ q : Cell, ((List.range cs.length).map (fun z => viaN (rowD L cs q) (cs.map (rowD L cs)) z cs.length)).length = cs.length) := hide (fun q => by rw [List.length_map, List.length_range])
  obtain ⟨RR, hRR⟩ : ∃ z, cs.map (rowD L cs) = z := ⟨_, rfl⟩
  rw [hRR] at HO HV HQI HFJ HLR HRL HVL
  have HC := hide hc
  have HR16 := hide hr
  obtain ⟨m, hm⟩ : ∃ z, cs.length = z := ⟨_, rfl⟩
  obtain ⟨n, hn⟩ : ∃ z, l.length = z := ⟨_, rfl⟩
  have HMM := hide hm
  have HNN := hide hn
  rw [hm, hn] at HS HO
  rw [hn] at HF
  rw [hm] at HV HFJ HLR HRL HVL h30
  rw [hm, hn] at HQI
  rw [hm, hn]
  have d1 : decide ((30 : Int) < (m : Int)) = false := by simp; omega
  have e1 : decide (30 < m) = false := by simp; omega
  clear h hr hu hc hl hi he hm hn e1 e4 e5 e6 hok hw hRR hn260
  have e1 : decide (30 < m) = false := by simp; omega
  go_enter Try.func9, Try.ntmps9
  go_wp2_with fail
  refine (HS.out _).mono ?_
  rintro e w1 ⟨rfl, hb1⟩
  have B0 : Hid (Blk w1 (w.heap.size) 26 #[.int .i64 PW, .int .i64 PH, .slice a n c]) := hide (by refine Blk.ext ?_ hb1; (repeat' (first | exact Blk.new_ (by simp) | refine Blk.drew ?_ | refine Blk.over ?_)))
  have B1 : Hid (Blk w1 (w.heap.size + 1) 51 #[.int .i64 PW, .int .i64 PH, .int .i64 s]) := hide (by refine Blk.ext ?_ hb1; (repeat' (first | exact Blk.new_ (by simp) | refine Blk.drew ?_ | refine Blk.over ?_)))
  have B2 : Hid (Blk w1 (w.heap.size + 2) 53 #[.int .i64 id, .slice ca m cc, .int .i64 tx, .int .i64 ty]) := hide (by refine Blk.ext ?_ hb1; (repeat' (first | exact Blk.new_ (by simp) | refine Blk.drew ?_ | refine Blk.over ?_)))
  have hx1 : Ext w w1 := (by (with_reducible (repeat' (first | exact Ext.refl _ | assumption | refine Ext.drew ?_ | refine Ext.drewN ?_ _ | refine Ext.alloc ?_ _ | refine Ext.setCell ?_ ?_ _ | refine Ext.trans ?_ (by assumption)))); all_goals (first | (simp; done) | (simp; omega)))
  have X1 := hide hx1
  have p0 := B0.out.at 0 rfl; have p1 := B0.out.at 1 rfl; have p2 := B0.out.at 2 rfl; have pz := B0.out.lt
  have q0 := B1.out.at 0 rfl; have q1 := B1.out.at 1 rfl; have q2 := B1.out.at 2 rfl; have qz := B1.out.lt
  have r0 := B2.out.at 0 rfl; have r1 := B2.out.at 1 rfl; have r2 := B2.out.at 2 rfl; have r3 := B2.out.at 3 rfl; have rz := B2.out.lt
  clear hb1 hx1
  go_wp2_with fail
  refine (HO.out _ (X1.out.trans (by (with_reducible (repeat' (first | exact Ext.refl _ | assumption | refine Ext.drew ?_ | refine Ext.drewN ?_ _ | refine Ext.alloc ?_ _ | refine Ext.setCell ?_ ?_ _ | refine Ext.trans ?_ (by assumption)))); all_goals (first | (simp; done) | (simp; omega))))).mono ?_
  rintro e w2 ⟨v1, v2, rfl, hb2, ho2, hr2⟩
  obtain ⟨a1, c1, rfl⟩ := ho2.slice
  obtain ⟨a2, c2, rfl, hu2⟩ := rowsU_of hr2
  rw [HLR.out] at hr2 ⊢
  rw [HMM.out] at ho2 ⊢
  have hx12 : Ext w1 w2 := (by (with_reducible (repeat' (first | exact Ext.refl _ | assumption | refine Ext.drew ?_ | refine Ext.drewN ?_ _ | refine Ext.alloc ?_ _ | refine Ext.setCell ?_ ?_ _ | refine Ext.trans ?_ (by assumption)))); all_goals (first | (simp; done) | (simp; omega)))
  have X2 := hide (X1.out.trans hx12)
  have U2 := hide hu2
  have C0 := hide (B0.out.ext hx12)
  have C2 := hide (B2.out.ext hx12)
  clear p0 p1 p2 pz q0 q1 q2 qz r0 r1 r2 r3 rz B0 B1 B2 X1 hx12 hb2 ho2 hr2 hu2
  have p0 := C0.out.at 0 rfl; have p1 := C0.out.at 1 rfl; have p2 := C0.out.at 2 rfl; have pz := C0.out.lt
  have r0 := C2.out.at 0 rfl; have r1 := C2.out.at 1 rfl; have r2 := C2.out.at 2 rfl; have r3 := C2.out.at 3 rfl; have rz := C2.out.lt
  go_wp2_with fail
  obtain ⟨w3, hw3⟩ : ∃ z, z = w2.alloc (.cells #[.slice a1 m c1, .slice a2 m c2] 57) := ⟨_, rfl⟩
  have hx23 : Ext w2 w3 := by rw [hw3]; exact (by (with_reducible (repeat' (first | exact Ext.refl _ | assumption | refine Ext.drew ?_ | refine Ext.drewN ?_ _ | refine Ext.alloc ?_ _ | refine Ext.setCell ?_ ?_ _ | refine Ext.trans ?_ (by assumption)))); all_goals (first | (simp; done) | (simp; omega)))
  have X3 := hide (X2.out.trans hx23)
  have U3 := hide (U2.out.ext hx23)
  have D0 := hide (C0.out.ext hx23)
  have D2 := hide (C2.out.ext hx23)
  have DT := hide (show Blk w3 w2.heap.size 57 #[.slice a1 m c1, .slice a2 m c2] by rw [hw3]; exact Blk.new_ rfl)
  obtain ⟨tb, htb⟩ : ∃ z, w2.heap.size = z := ⟨_, rfl⟩
  rw [htb] at DT
  rw [← hw3, htb]
  clear p0 p1 p2 pz r0 r1 r2 r3 rz C0 C2 X2 U2 hx23 hw3 htb
  go_loopw [10] (fun iv wr => ∃ k : Nat, k ≤ m ∧ iv = .int .i64 k ∧ Ext w3 wr) (fun iv _ => m - (intOf iv).toNat)
  case atStart => exact ⟨0, Nat.zero_le _, rfl, Ext.refl _⟩
  case round =>
    obtain ⟨k, hk, rfl, hx⟩ := hrel
    have XR := hide hx
    have E0 := hide (D0.out.ext hx)
    have E2 := hide (D2.out.ext hx)
    have ET := hide (DT.out.ext hx)
    have p0 := E0.out.at 0 rfl; have p1 := E0.out.at 1 rfl; have p2 := E0.out.at 2 rfl; have pz := E0.out.lt
    have r0 := E2.out.at 0 rfl; have r1 := E2.out.at 1 rfl; have r2 := E2.out.at 2 rfl; have r3 := E2.out.at 3 rfl; have rz := E2.out.lt
    have t0 := ET.out.at 0 rfl; have t1 := ET.out.at 1 rfl; have tz := ET.out.lt
    by_cases hlt : k < m
    · obtain ⟨q, r, J, cst, d, hq, hqm, hRk, hrq, hrm, hJ, hJn, kk1, kk2, hcst, hrd, hdd⟩ := HQI.out k hlt
      obtain ⟨b, off, rfl, hb, hcc⟩ := HC.out (by rw [HMM.out]; omega)
      obtain ⟨hkl, hql⟩ := List.getElem?_eq_some_iff.1 hq
      have hc1 := hcc k hkl
      rw [hql] at hc1
      have hxw := X3.out.trans hx
      have y0 := (hxw.cell (p := ⟨b, off + k * 2, none⟩) hb).trans hc1.1
      have y1 := (hxw.cell (p := ⟨b, off + k * 2 + 1, none⟩) hb).trans hc1.2
      have yz : b < wr.heap.size := Nat.lt_of_lt_of_le hb hxw.size
      obtain ⟨ab, ao, rfl, hab, hac⟩ := HR16.out (by rw [HNN.out]; omega)
      obtain ⟨hJl, hJv⟩ := List.getElem?_eq_some_iff.1 hcst
      have hc2 := hac J hJl
      rw [hJv] at hc2
      have y2 := (hxw.cell (p := ⟨ab, ao + J, none⟩) hab).trans hc2
      have yz2 : ab < wr.heap.size := Nat.lt_of_lt_of_le hab hxw.size
      obtain ⟨bb, ob, rfl, hbb, hbc⟩ := U3.out (by rw [HLR.out]; omega)
      obtain ⟨hRl, hRv⟩ := List.getElem?_eq_some_iff.1 hRk
      obtain ⟨sk, ck, hsk, hsu⟩ := hbc k hRl
      rw [hRv] at hsk hsu
      rw [hrm] at hsk
      have y3 := (hx.cell (p := ⟨bb, ob + k, none⟩) hbb).trans hsk
      have yz3 : bb < wr.heap.size := Nat.lt_of_lt_of_le hbb hx.size
      have HSU := hide hsu
      have SKC0 := hsk
      obtain ⟨kb, ko, rfl, hkb, hkc⟩ := hsu (by omega)
      obtain ⟨hrl, hrv⟩ := List.getElem?_eq_some_iff.1 hrd
      have hc4 := hkc k hrl
      rw [hrv] at hc4
      have y4 := (hx.cell (p := ⟨kb, ko + k, none⟩) hkb).trans hc4
      have yz4 : kb < wr.heap.size := Nat.lt_of_lt_of_le hkb hx.size
      have jk : (k : Int) < (m : Int) := by omega
      have jJ : (J : Int) < (n : Int) := by omega
      have g1 : decide ((n : Int) ≤ (J : Int)) = false := by simp; omega
      have g2 : decide (n ≤ J) = false := by simp; omega
      have HQ := hide hq
      have HQM := hide hqm
      have HRQ := hide hrq
      have HJ := hide hJ
      have HRM := hide hrm
      have HRK := hide hRk
      have SKC := hide SKC0
      clear SKC0
      clear hq hqm hRk hrq hrm hJ hcst hrd hcc hkl hql hc1 hxw hac hJl hJv hc2 hbc hRl hRv hsk hsu hkc hrl hrv hc4
      obtain ⟨qx, qy⟩ := q
      simp only at kk1 kk2 y0 y1
      go_wp2_with fail
      refine seqH_start (S := (fun W => (∀ b o, b < wr.heap.size → W.cell? ⟨b, o, none⟩ = wr.cell? ⟨b, o, none⟩) ∧ Ext wr W)) [(0, true), (1, true), (2, true), (3, true), (4, true), (5, true), (6, true), (7, true), (8, true), (9, true), (10, true), (11, true), (12, true), (13, true), (14, true), (15, true), (16, true), (17, true)] (by kernel_rfl) (by kernel_rfl) (by kernel_rfl) (by decide) (fun _ _ d _ _ h => by cases d <;> exact h) (by first | with_reducible exact pr_start _ | exact pr_of (by (with_reducible (repeat' (first | exact Ext.refl _ | assumption | refine Ext.drew ?_ | refine Ext.drewN ?_ _ | refine Ext.alloc ?_ _ | refine Ext.setCell ?_ ?_ _ | refine Ext.trans ?_ (by assumption)))); all_goals (first | (simp; done) | (simp; omega)))) (fun hHeld => ?_)
      iterate 18 (apply SeqH.free; (· (simp only [List.getElem?_toArray, List.getElem?_cons_succ, List.getElem?_cons_zero]; rfl)); (· first | exact Or.inr ⟨by rfl, rfl⟩ | (refine Or.inl ⟨by rfl, ?_⟩; intro w hSw; (try dsimp only at hSw); go_simp; try with_reducible rfl)); try simp only [Act.put, List.setIfInBounds_toArray, List.set_cons_zero, List.set_cons_succ])
      refine SeqH.done ?_
      clear hHeld
      go_upto_region 15 with (fail)
      go_cut [142] from 97 to 142 (fun s142 wx => s142 = .bool false ∧ Ext wr wx)
      case first =>
        rcases hdd with ⟨hc0, rfl⟩ | ⟨rfl, rfl⟩
        · have hcb : (cst == 0) = false := by rw [beq_eq_false_iff_ne]; omega
          have hcn : (cst != 0) = true := by simp; omega
          refine seqH_start (S := (fun W => (∀ b o, b < wr.heap.size → W.cell? ⟨b, o, none⟩ = wr.cell? ⟨b, o, none⟩) ∧ Ext wr W)) [(0, true), (1, true), (2, true), (3, true), (4, true), (5, true), (6, true), (7, true), (8, true), (9, true), (10, true), (11, true), (12, true), (13, true), (14, true), (15, true), (16, true), (17, true), (18, true), (19, true), (20, true), (21, true), (22, true), (23, true), (24, true), (25, true), (26, true), (27, true), (28, true), (29, true), (30, true), (31, true), (32, true), (33, true), (34, true), (35, true), (36, true), (37, true), (38, true), (39, true), (40, true), (41, true), (42, true), (43, true), (44, true), (45, true)] (by kernel_rfl) (by kernel_rfl) (by kernel_rfl) (by decide) (fun _ _ d _ _ h => by cases d <;> exact h) (by first | with_reducible exact pr_start _ | exact pr_of (by (with_reducible (repeat' (first | exact Ext.refl _ | assumption | refine Ext.drew ?_ | refine Ext.drewN ?_ _ | refine Ext.alloc ?_ _ | refine Ext.setCell ?_ ?_ _ | refine Ext.trans ?_ (by assumption)))); all_goals (first | (simp; done) | (simp; omega)))) (fun hHeld => ?_)
          iterate 46 (apply SeqH.free; (· (simp only [List.getElem?_toArray, List.getElem?_cons_succ, List.getElem?_cons_zero]; rfl)); (· first | exact Or.inr ⟨by rfl, rfl⟩ | (refine Or.inl ⟨by rfl, ?_⟩; intro w hSw; (try dsimp only at hSw); go_simp; try with_reducible rfl)); try simp only [Act.put, List.setIfInBounds_toArray, List.set_cons_zero, List.set_cons_succ])
          refine SeqH.done ?_
          have hSx := hHeld.2
          go_wp2_with fail
          go_meet
          case rel => exact ⟨rfl, hSx⟩
        · change wr.cell? ⟨kb, ko + k, none⟩ = some (.int .u64 18446744073709551615) at y4
          refine seqH_start (S := (fun W => (∀ b o, b < wr.heap.size → W.cell? ⟨b, o, none⟩ = wr.cell? ⟨b, o, none⟩) ∧ Ext wr W)) [(0, true), (1, true), (2, true), (3, true), (4, true), (5, true), (6, true), (7, true), (8, true), (9, true), (10, true), (11, true), (12, true), (13, true), (14, true), (15, true), (16, true), (17, true), (18, true), (19, true), (20, true), (21, true), (22, true), (23, true), (24, true), (25, true), (26, true), (27, true), (28, true), (29, true), (30, true), (31, true), (32, true), (33, true), (34, true), (35, true), (36, true), (37, true), (38, true), (39, true), (40, true), (41, true), (42, true), (43, true), (44, true), (45, true)] (by kernel_rfl) (by kernel_rfl) (by kernel_rfl) (by decide) (fun _ _ d _ _ h => by cases d <;> exact h) (by first | with_reducible exact pr_start _ | exact pr_of (by (with_reducible (repeat' (first | exact Ext.refl _ | assumption | refine Ext.drew ?_ | refine Ext.drewN ?_ _ | refine Ext.alloc ?_ _ | refine Ext.setCell ?_ ?_ _ | refine Ext.trans ?_ (by assumption)))); all_goals (first | (simp; done) | (simp; omega)))) (fun hHeld => ?_)
          iterate 46 (apply SeqH.free; (· (simp only [List.getElem?_toArray, List.getElem?_cons_succ, List.getElem?_cons_zero]; rfl)); (· first | exact Or.inr ⟨by rfl, rfl⟩ | (refine Or.inl ⟨by rfl, ?_⟩; intro w hSw; (try dsimp only at hSw); go_simp; try with_reducible rfl)); try simp only [Act.put, List.setIfInBounds_toArray, List.set_cons_zero, List.set_cons_succ])
          refine SeqH.done ?_
          have hSx := hHeld.2
          go_wp2_with fail
          go_meet
          case rel => exact ⟨rfl, hSx⟩
      case rest =>
        obtain ⟨rfl, hxc⟩ := hcut
        have XC := hide (XR.out.trans hxc)
        replace y0 := (hxc.cell (p := ⟨b, off + k * 2, none⟩) yz).trans y0
        replace y1 := (hxc.cell (p := ⟨b, off + k * 2 + 1, none⟩) yz).trans y1
        replace y3 := (hxc.cell (p := ⟨bb, ob + k, none⟩) yz3).trans y3
        replace yz : b < wc.heap.size := Nat.lt_of_lt_of_le yz hxc.size
        replace yz3 : bb < wc.heap.size := Nat.lt_of_lt_of_le yz3 hxc.size
        clear p0 p1 p2 pz r0 r1 r2 r3 rz t0 t1 tz y2 yz2 y4 yz4 hdd
        replace E0 := hide (E0.out.ext hxc)
        replace E2 := hide (E2.out.ext hxc)
        replace ET := hide (ET.out.ext hxc)
        have p0 := E0.out.at 0 rfl; have p1 := E0.out.at 1 rfl; have p2 := E0.out.at 2 rfl; have pz := E0.out.lt
        have r0 := E2.out.at 0 rfl; have r1 := E2.out.at 1 rfl; have r2 := E2.out.at 2 rfl; have r3 := E2.out.at 3 rfl; have rz := E2.out.lt
        have t0 := ET.out.at 0 rfl; have t1 := ET.out.at 1 rfl; have tz := ET.out.lt
        clear hxc
        go_wp2_with fail
        refine seqH_start (S := (fun W => (∀ b o, b < wc.heap.size → W.cell? ⟨b, o, none⟩ = wc.cell? ⟨b, o, none⟩) ∧ Ext wc W)) [(0, true), (1, true), (2, true), (3, true), (4, true), (5, true), (6, false), (7, true), (8, true), (9, true), (10, true), (11, true)] (by kernel_rfl) (by kernel_rfl) (by kernel_rfl) (by decide) (fun _ _ d _ _ h => by cases d <;> exact h) (by first | with_reducible exact pr_start _ | exact pr_of (by (with_reducible (repeat' (first | exact Ext.refl _ | assumption | refine Ext.drew ?_ | refine Ext.drewN ?_ _ | refine Ext.alloc ?_ _ | refine Ext.setCell ?_ ?_ _ | refine Ext.trans ?_ (by assumption)))); all_goals (first | (simp; done) | (simp; omega)))) (fun hHeld => ?_)
        iterate 6 (apply SeqH.free; (· (simp only [List.getElem?_toArray, List.getElem?_cons_succ, List.getElem?_cons_zero]; rfl)); (· first | exact Or.inr ⟨by rfl, rfl⟩ | (refine Or.inl ⟨by rfl, ?_⟩; intro w hSw; (try dsimp only at hSw); go_simp; try with_reducible rfl)); try simp only [Act.put, List.setIfInBounds_toArray, List.set_cons_zero, List.set_cons_succ])
        (apply SeqH.step; (· (simp only [List.getElem?_toArray, List.getElem?_cons_succ, List.getElem?_cons_zero]; rfl)); intro K hK; go_simp; refine (HF.out _ (X3.out.trans (XC.out.trans (by (with_reducible (repeat' (first | exact Ext.refl _ | assumption | refine Ext.drew ?_ | refine Ext.drewN ?_ _ | refine Ext.alloc ?_ _ | refine Ext.setCell ?_ ?_ _ | refine Ext.trans ?_ (by assumption)))); all_goals (first | (simp; done) | (simp; omega))))) (qx, qy) HQM.out).mono ?_; rintro e w5 ⟨v5, far, rfl, hb5, ho5, hle⟩; obtain ⟨g5, c5, rfl, hg1, hg2⟩ := ho5.pos (by rw [farL_len]; omega); rw [farL_len] at ho5 ⊢; have FA := hide (show FarAt w5 _ g5 c5 far n from ho5); have HLE := hide hle; clear ho5 hle; go_wp2_with fail; refine hK.out _ _ (pr_of (by (with_reducible (repeat' (first | exact Ext.refl _ | assumption | refine Ext.drew ?_ | refine Ext.drewN ?_ _ | refine Ext.alloc ?_ _ | refine Ext.setCell ?_ ?_ _ | refine Ext.trans ?_ (by assumption)))); all_goals (first | (simp; done) | (simp; omega)))) (fun hHeld => ?_); clear hK K; try simp only [Act.put, List.setIfInBounds_toArray, List.set_cons_zero, List.set_cons_succ])
        iterate 5 (apply SeqH.free; (· (simp only [List.getElem?_toArray, List.getElem?_cons_succ, List.getElem?_cons_zero]; rfl)); (· first | exact Or.inr ⟨by rfl, rfl⟩ | (refine Or.inl ⟨by rfl, ?_⟩; intro w hSw; (try dsimp only at hSw); go_simp; try with_reducible rfl)); try simp only [Act.put, List.setIfInBounds_toArray, List.set_cons_zero, List.set_cons_succ])
        refine SeqH.done ?_
        have hx05 := hHeld.2
        have X5 := hide ((X3.out.trans XC.out).trans hx05)
        have XR5 := hide (XC.out.trans hx05)
        have F0 := hide (E0.out.ext hx05)
        have F2 := hide (E2.out.ext hx05)
        have FT := hide (ET.out.ext hx05)
        replace y0 := (hx05.cell (p := ⟨b, off + k * 2, none⟩) yz).trans y0
        replace y1 := (hx05.cell (p := ⟨b, off + k * 2 + 1, none⟩) yz).trans y1
        replace y3 := (hx05.cell (p := ⟨bb, ob + k, none⟩) yz3).trans y3
        replace yz : b < w5.heap.size := Nat.lt_of_lt_of_le yz hx05.size
        replace yz3 : bb < w5.heap.size := Nat.lt_of_lt_of_le yz3 hx05.size
        clear hHeld hb5 hg1 hg2 hx05 p0 p1 p2 pz r0 r1 r2 r3 rz t0 t1 tz E0 E2 ET
        have p0 := F0.out.at 0 rfl; have p1 := F0.out.at 1 rfl; have p2 := F0.out.at 2 rfl; have pz := F0.out.lt
        have r0 := F2.out.at 0 rfl; have r1 := F2.out.at 1 rfl; have r2 := F2.out.at 2 rfl; have r3 := F2.out.at 3 rfl; have rz := F2.out.lt
        have t0 := FT.out.at 0 rfl; have t1 := FT.out.at 1 rfl; have tz := FT.out.lt
        go_wp2_with fail
        refine seqH_start (S := (fun W => (∀ b o, b < w5.heap.size → W.cell? ⟨b, o, none⟩ = w5.cell? ⟨b, o, none⟩) ∧ Ext w5 W)) [(0, true), (1, true), (2, true), (3, true), (4, true), (5, true), (6, true), (7, false), (8, true), (9, true), (10, true), (11, true), (12, true)] (by kernel_rfl) (by kernel_rfl) (by kernel_rfl) (by decide) (fun _ _ d _ _ h => by cases d <;> exact h) (by first | with_reducible exact pr_start _ | exact pr_of (by (with_reducible (repeat' (first | exact Ext.refl _ | assumption | refine Ext.drew ?_ | refine Ext.drewN ?_ _ | refine Ext.alloc ?_ _ | refine Ext.setCell ?_ ?_ _ | refine Ext.trans ?_ (by assumption)))); all_goals (first | (simp; done) | (simp; omega)))) (fun hHeld => ?_)
        iterate 7 (apply SeqH.free; (· (simp only [List.getElem?_toArray, List.getElem?_cons_succ, List.getElem?_cons_zero]; rfl)); (· first | exact Or.inr ⟨by rfl, rfl⟩ | (refine Or.inl ⟨by rfl, ?_⟩; intro w hSw; (try dsimp only at hSw); go_simp; try with_reducible rfl)); try simp only [Act.put, List.setIfInBounds_toArray, List.set_cons_zero, List.set_cons_succ])
        (apply SeqH.step; (· (simp only [List.getElem?_toArray, List.getElem?_cons_succ, List.getElem?_cons_zero]; rfl)); intro K hK; go_simp; refine (HV.out _ (some ⟨kb, ko, none⟩) (some ⟨bb, ob, none⟩) ck c2 (qx, qy) (by rw [← HRQ.out]; exact (HSU.out.ext XR5.out).ext (by (with_reducible (repeat' (first | exact Ext.refl _ | assumption | refine Ext.drew ?_ | refine Ext.drewN ?_ _ | refine Ext.alloc ?_ _ | refine Ext.setCell ?_ ?_ _ | refine Ext.trans ?_ (by assumption)))); all_goals (first | (simp; done) | (simp; omega)))) ((U3.out.ext XR5.out).ext (by (with_reducible (repeat' (first | exact Ext.refl _ | assumption | refine Ext.drew ?_ | refine Ext.drewN ?_ _ | refine Ext.alloc ?_ _ | refine Ext.setCell ?_ ?_ _ | refine Ext.trans ?_ (by assumption)))); all_goals (first | (simp; done) | (simp; omega)))) (by omega)).mono ?_; rintro e w6 ⟨v6, rfl, hb6, ho6⟩; obtain ⟨g6, c6, rfl, hg1, hg2⟩ := ho6.pos (by rw [HVL.out]; omega); rw [HVL.out] at ho6 ⊢; have OV := hide ho6; clear ho6; go_wp2_with fail; refine hK.out _ _ (pr_of (by (with_reducible (repeat' (first | exact Ext.refl _ | assumption | refine Ext.drew ?_ | refine Ext.drewN ?_ _ | refine Ext.alloc ?_ _ | refine Ext.setCell ?_ ?_ _ | refine Ext.trans ?_ (by assumption)))); all_goals (first | (simp; done) | (simp; omega)))) (fun hHeld => ?_); clear hK K; try simp only [Act.put, List.setIfInBounds_toArray, List.set_cons_zero, List.set_cons_succ])
        iterate 5 (apply SeqH.free; (· (simp only [List.getElem?_toArray, List.getElem?_cons_succ, List.getElem?_cons_zero]; rfl)); (· first | exact Or.inr ⟨by rfl, rfl⟩ | (refine Or.inl ⟨by rfl, ?_⟩; intro w hSw; (try dsimp only at hSw); go_simp; try with_reducible rfl)); try simp only [Act.put, List.setIfInBounds_toArray, List.set_cons_zero, List.set_cons_succ])
        refine SeqH.done ?_
        have hx56 := hHeld.2
        have X6 := hide (X5.out.trans hx56)
        have XR6 := hide (XR5.out.trans hx56)
        have H0 := hide (F0.out.ext hx56)
        have H2 := hide (F2.out.ext hx56)
        have HT := hide (FT.out.ext hx56)
        have FA6 := hide (FA.out.ext hx56)
        clear hHeld hb6 hg1 hg2 hx56 p0 p1 p2 pz r0 r1 r2 r3 rz t0 t1 tz F0 F2 FT y0 y1 y3 yz yz3 X5 XR5 XC FA
        go_wp2_with fail
        go_loopw [16] (fun iv wr => ∃ j : Nat, j ≤ m ∧ iv = .int .i64 j ∧ Ext w6 wr) (fun iv _ => m - (intOf iv).toNat)
        case atStart => exact ⟨0, Nat.zero_le _, rfl, Ext.refl _⟩
        case round => as_aux_lemma =>
          obtain ⟨j, hj, rfl, hxv⟩ := hrel
          have XV := hide hxv
          have XR7 := hide (XR6.out.trans hxv)
          have I0 := hide (H0.out.ext hxv)
          have I2 := hide (H2.out.ext hxv)
          have IT := hide (HT.out.ext hxv)
          have p0 := I0.out.at 0 rfl; have p1 := I0.out.at 1 rfl; have p2 := I0.out.at 2 rfl; have pz := I0.out.lt
          have r0 := I2.out.at 0 rfl; have r1 := I2.out.at 1 rfl; have r2 := I2.out.at 2 rfl; have r3 := I2.out.at 3 rfl; have rz := I2.out.lt
          have t0 := IT.out.at 0 rfl; have t1 := IT.out.at 1 rfl; have tz := IT.out.lt
          by_cases hjt : j < m
          · obtain ⟨q', r', J', cst', d', hq', _, _, _, _, hJ', hJn', kk1', kk2', _, _, _⟩ := HQI.out j hjt
            have hfj := HFJ.out k j (qx, qy) q' HQ.out hq'
            rw [← hJ'] at hfj
            have hfj1 := hfj.1
            have hfj2 := hfj.2
            rw [← HRQ.out] at hfj1
            clear hfj
            obtain ⟨z, hz⟩ : ∃ z, farD L (qx, qy) J' = z := ⟨_, rfl⟩
            have hle := HLE.out J'
            rw [hz] at hfj1 hfj2 hle
            have hin := HC.out (by rw [HMM.out]; omega)
            obtain ⟨b', off', eb, hb', hcc'⟩ := hin
            injection eb with eb
            injection eb with eb1 eb2 _
            subst eb1 eb2
            obtain ⟨hjl, hjv⟩ := List.getElem?_eq_some_iff.1 hq'
            have hc1 := hcc' j hjl
            rw [hjv] at hc1
            have hxw := X3.out.trans XR7.out
            have y0 := (hxw.cell (p := ⟨b, off + j * 2, none⟩) hb').trans hc1.1
            have y1 := (hxw.cell (p := ⟨b, off + j * 2 + 1, none⟩) hb').trans hc1.2
            have yz : b < wr.heap.size := Nat.lt_of_lt_of_le hb' hxw.size
            have f0 := ((FA6.out.ext hxv).cell hJn').1
            have fz := (FA6.out.ext hxv).lt.2
            obtain ⟨fw, hfw⟩ : ∃ z, far J' = z := ⟨_, rfl⟩
            rw [hfw] at f0 hle
            obtain ⟨kb', ko', ek, hkb', hkc'⟩ := HSU.out (by rw [HRM.out]; omega)
            injection ek with ek
            injection ek with ek1 ek2 _
            subst ek1 ek2
            obtain ⟨hrl, hrv⟩ := List.getElem?_eq_some_iff.1 hfj1
            have hc4 := hkc' j hrl
            rw [hrv] at hc4
            have y4 := (XR7.out.cell (p := ⟨kb, ko + j, none⟩) hkb').trans hc4
            have yz4 : kb < wr.heap.size := Nat.lt_of_lt_of_le hkb' XR7.out.size
            obtain ⟨bb', ob', ebb, hbb', hbc'⟩ := U3.out (by rw [HLR.out]; omega)
            injection ebb with ebb
            injection ebb with ebb1 ebb2 _
            subst ebb1 ebb2
            obtain ⟨hRl, hRv⟩ := List.getElem?_eq_some_iff.1 HRK.out
            have y3 : wr.cell? ⟨bb, ob + k, none⟩ = some (.slice (some ⟨kb, ko, none⟩) m ck) := (XR7.out.cell (p := ⟨bb, ob + k, none⟩) hbb').trans SKC.out
            have yz3 : bb < wr.heap.size := Nat.lt_of_lt_of_le hbb' XR7.out.size
            have hv := (own_cell (OV.out.ext hxv) (k := j) hfj2 (j := 0) (u := .int .u64 z) rfl).1
            have hvz := (own_lt (OV.out.ext hxv) (k := g6) rfl).2
            simp only [u64E, Nat.mul_one, Nat.add_zero] at hv
            have jj : (j : Int) < (m : Int) := by omega
            have jJ' : (J' : Int) < (n : Int) := by omega
            have g1' : decide ((n : Int) ≤ (J' : Int)) = false := by simp; omega
            have g2' : decide (n ≤ J') = false := by simp; omega
            have g3 : decide (z < fw) = false := by simp; omega
            clear hq' hJ' hfj1 hfj2 hz hle hb' hcc' hjl hjv hc1 hxw hfw hkb' hkc' hrl hrv hc4 hbb' hbc' hRl hRv
            obtain ⟨qx', qy'⟩ := q'
            simp only at kk1' kk2' y0 y1
            go_wp2_with fail
            refine seqH_start (S := (fun W => (∀ b o, b < wr.heap.size → W.cell? ⟨b, o, none⟩ = wr.cell? ⟨b, o, none⟩) ∧ Ext wr W)) [(0, true), (1, true), (2, true), (3, true), (4, true), (5, true), (6, true), (7, true), (8, true), (9, true), (10, true), (11, true), (12, true), (13, true), (14, true), (15, true), (16, true), (17, true)] (by kernel_rfl) (by kernel_rfl) (by kernel_rfl) (by decide) (fun _ _ d _ _ h => by cases d <;> exact h) (by first | with_reducible exact pr_start _ | exact pr_of (by (with_reducible (repeat' (first | exact Ext.refl _ | assumption | refine Ext.drew ?_ | refine Ext.drewN ?_ _ | refine Ext.alloc ?_ _ | refine Ext.setCell ?_ ?_ _ | refine Ext.trans ?_ (by assumption)))); all_goals (first | (simp; done) | (simp; omega)))) (fun hHeld => ?_)
            iterate 18 (apply SeqH.free; (· (simp only [List.getElem?_toArray, List.getElem?_cons_succ, List.getElem?_cons_zero]; rfl)); (· first | exact Or.inr ⟨by rfl, rfl⟩ | (refine Or.inl ⟨by rfl, ?_⟩; intro w hSw; (try dsimp only at hSw); go_simp; try with_reducible rfl)); try simp only [Act.put, List.setIfInBounds_toArray, List.set_cons_zero, List.set_cons_succ])
            refine SeqH.done ?_
            clear hHeld
            go_wp2_with fail
            refine seqH_start (S := (fun W => (∀ b o, b < wr.heap.size → W.cell? ⟨b, o, none⟩ = wr.cell? ⟨b, o, none⟩) ∧ Ext wr W)) [(0, true), (1, true), (2, true), (3, true), (4, true), (5, true), (6, true), (7, true), (8, true), (9, true), (10, true), (11, true), (12, true), (13, true), (14, true), (15, true), (16, true), (17, true), (18, true), (19, true), (20, true), (21, true), (22, true), (23, true), (24, true), (25, true), (26, true), (27, true), (28, true), (29, true), (30, true), (31, true), (32, true), (33, true), (34, true), (35, true), (36, true), (37, true)] (by kernel_rfl) (by kernel_rfl) (by kernel_rfl) (by decide) (fun _ _ d _ _ h => by cases d <;> exact h) (by first | with_reducible exact pr_start _ | exact pr_of (by (with_reducible (repeat' (first | exact Ext.refl _ | assumption | refine Ext.drew ?_ | refine Ext.drewN ?_ _ | refine Ext.alloc ?_ _ | refine Ext.setCell ?_ ?_ _ | refine Ext.trans ?_ (by assumption)))); all_goals (first | (simp; done) | (simp; omega)))) (fun hHeld => ?_)
            iterate 38 (apply SeqH.free; (· (simp only [List.getElem?_toArray, List.getElem?_cons_succ, List.getElem?_cons_zero]; rfl)); (· first | exact Or.inr ⟨by rfl, rfl⟩ | (refine Or.inl ⟨by rfl, ?_⟩; intro w hSw; (try dsimp only at hSw); go_simp; try with_reducible rfl)); try simp only [Act.put, List.setIfInBounds_toArray, List.set_cons_zero, List.set_cons_succ])
            refine SeqH.done ?_
            clear hHeld
            go_wp2_with fail
            go_roundw
            case rel => exact ⟨j + 1, hjt, by go_num, XV.out.trans (by (with_reducible (repeat' (first | exact Ext.refl _ | assumption | refine Ext.drew ?_ | refine Ext.drewN ?_ _ | refine Ext.alloc ?_ _ | refine Ext.setCell ?_ ?_ _ | refine Ext.trans ?_ (by assumption)))); all_goals (first | (simp; done) | (simp; omega)))⟩
            case measure => simp [intOf]; omega
          · obtain rfl : j = m := by omega
            clear p0 p1 p2 pz r0 r1 r2 r3 rz t0 t1 tz
            go_wp2_with fail
            go_roundw
            case rel => exact ⟨k + 1, hlt, by go_num, XR7.out.trans (by (with_reducible (repeat' (first | exact Ext.refl _ | assumption | refine Ext.drew ?_ | refine Ext.drewN ?_ _ | refine Ext.alloc ?_ _ | refine Ext.setCell ?_ ?_ _ | refine Ext.trans ?_ (by assumption)))); all_goals (first | (simp; done) | (simp; omega)))⟩
            case measure => simp [intOf]; omega
    · obtain rfl : k = m := by omega
      have hxw := X3.out.trans hx
      clear p0 p1 p2 pz r0 r1 r2 r3 rz t0 t1 tz
      go_wp2_with (go_at_call 24; refine (awake13_any _).mono ?_; rintro e w6 ⟨rfl, hb6⟩)
      go_ret
      exact ⟨rfl, hxw.trans (by (with_reducible (repeat' (first | exact Ext.refl _ | assumption | refine Ext.drew ?_ | refine Ext.drewN ?_ _ | refine Ext.alloc ?_ _ | refine Ext.setCell ?_ ?_ _ | refine Ext.trans ?_ (by assumption)))); all_goals (first | (simp; done) | (simp; omega)))⟩
end Go.Proofs.Ytifbmapianddcaa
