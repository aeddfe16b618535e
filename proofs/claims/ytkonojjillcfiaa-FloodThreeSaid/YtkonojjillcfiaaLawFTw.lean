/- The walk of FloodThree. -/
import Derived.Test.YtkonojjillcfiaaLawFT
namespace Go.Proofs.Ytkonojjillcfiaa
open Go.RowKit

set_option maxRecDepth 100000 in
theorem ft_far {w : World} (W H : Int) (a : Option Addr) (n c : Nat) (bx byy bw bh fx fy tx ty : Int) (hn : ¬ (n : Int) ≤ 150) :
    Calls Try.prog 14 #[.agg #[.int .i64 W, .int .i64 H, .slice a n c], .agg #[.int .i64 bx, .int .i64 byy, .int .i64 bw, .int .i64 bh], .agg #[.int .i64 fx, .int .i64 fy, .int .i64 tx, .int .i64 ty]] w fun e w' => e = .returned (.bool true) ∧ Ext w w' := by
  have HS := hide (fun w' => small08_any W H a n c w')
  rw [show decide ((n : Int) ≤ 150) = false by simpa using hn] at HS
  clear hn
  go_enter Try.func14, Try.ntmps14
  go_wp2_with (first
    | (go_at_call 33; refine (HS.out _).mono ?_; rintro e w1 ⟨rfl, hb1⟩; obtain ⟨hc1, hf1⟩ := hb1.cells; have hz1 := hb1.size; (repeat (first | rw [World.size_alloc] at hz1 | rw [World.size_drew] at hz1)))
    | (go_at_call 34; refine (awake08_any _).mono ?_; rintro e w2 ⟨rfl, hb2⟩))
  go_ret
  exact ⟨rfl, (by (with_reducible (repeat' (first | exact Ext.refl _ | assumption | refine Ext.drew ?_ | refine Ext.drewN ?_ _ | refine Ext.alloc ?_ _ | refine Ext.setCell ?_ ?_ _ | refine Ext.trans ?_ (by assumption)))); all_goals (first | (simp; done) | (simp; omega)))⟩

set_option maxRecDepth 100000 in
theorem ft_bad {w : World} {W H : Int} {a : Option Addr} {n : Nat} (c : Nat) (bx byy bw bh fx fy tx ty : Int) (hn : (n : Int) ≤ 150) (he : lookE W H n bx byy bw bh fx fy ≠ 0) :
    Calls Try.prog 14 #[.agg #[.int .i64 W, .int .i64 H, .slice a n c], .agg #[.int .i64 bx, .int .i64 byy, .int .i64 bw, .int .i64 bh], .agg #[.int .i64 fx, .int .i64 fy, .int .i64 tx, .int .i64 ty]] w fun e w' => e = .returned (.bool true) ∧ Ext w w' := by
  have HS := hide (fun w' => small08_any W H a n c w')
  rw [show decide ((n : Int) ≤ 150) = true by simpa using hn] at HS
  have H1 := hide (fun (w' : World) => fWithin_bad (w := w') W H a n c bx byy bw bh fx fy he)
  have H2 := hide (fun (w' : World) => fPath_bad (w := w') W H a n c bx byy bw bh fx fy tx ty he)
  generalize lookE W H n bx byy bw bh fx fy = e1 at *
  have hb : (e1 != 0) = true := by simpa using he
  clear he hn
  go_enter Try.func14, Try.ntmps14
  go_wp2_with (first
    | (go_at_call 33; refine (HS.out _).mono ?_; rintro e w1 ⟨rfl, hb1⟩; obtain ⟨hc1, hf1⟩ := hb1.cells; have hz1 := hb1.size; (repeat (first | rw [World.size_alloc] at hz1 | rw [World.size_drew] at hz1)); have z1_0 : w.heap.size < w1.heap.size := (by omega); have z1_1 : w.heap.size + 1 < w1.heap.size := (by omega); have z1_2 : w.heap.size + 2 < w1.heap.size := (by omega))
    | (go_at_call 35; refine (H1.out _).mono ?_; rintro e w3 ⟨rfl, hb3⟩; obtain ⟨hc3, hf3⟩ := hb3.cells; have hz3 := hb3.size; (repeat (first | rw [World.size_alloc] at hz3 | rw [World.size_drew] at hz3)); have z3_0 : w.heap.size < w3.heap.size := (by omega); have z3_1 : w.heap.size + 1 < w3.heap.size := (by omega); have z3_2 : w.heap.size + 2 < w3.heap.size := (by omega))
    | (go_at_call 40; refine (H2.out _).mono ?_; rintro e w4 ⟨rfl, hb4⟩)
    | (go_at_call 34; refine (awake08_any _).mono ?_; rintro e w2 ⟨rfl, hb2⟩))
  go_ret
  exact ⟨rfl, (by (with_reducible (repeat' (first | exact Ext.refl _ | assumption | refine Ext.drew ?_ | refine Ext.drewN ?_ _ | refine Ext.alloc ?_ _ | refine Ext.setCell ?_ ?_ _ | refine Ext.trans ?_ (by assumption)))); all_goals (first | (simp; done) | (simp; omega)))⟩

set_option maxRecDepth 100000 in
theorem ft_out {w : World} {W H : Int} {a : Option Addr} {l : List Int} (c : Nat) (bx byy bw bh fx fy tx ty : Int) (hr : Row16 w a l) (hu : U16s l) (hn : (l.length : Int) ≤ 150) (he : lookE W H l.length bx byy bw bh fx fy = 0) (ht : hasB bx byy bw bh tx ty = false) :
    Calls Try.prog 14 #[.agg #[.int .i64 W, .int .i64 H, .slice a l.length c], .agg #[.int .i64 bx, .int .i64 byy, .int .i64 bw, .int .i64 bh], .agg #[.int .i64 fx, .int .i64 fy, .int .i64 tx, .int .i64 ty]] w fun e w' => e = .returned (.bool true) ∧ Ext w w' := by
  have HS := hide (fun w' => small08_any W H a l.length c w')
  rw [show decide ((l.length : Int) ≤ 150) = true by simpa using hn] at HS
  have H1 := hide (fun (w' : World) (hx : Ext w w') => fWithin_some (W := W) (H := H) c bx byy bw bh fx fy (hr.ext hx) hu)
  rw [he] at H1
  have H2 := hide (fun (w' : World) => fPath_out (w := w') W H a l.length c bx byy bw bh fx fy tx ty he ht)
  obtain ⟨n, hnn⟩ : ∃ n, l.length = n := ⟨_, rfl⟩
  rw [hnn] at HS H1 H2 ⊢
  clear he hn hr hu ht hnn
  go_enter Try.func14, Try.ntmps14
  go_wp2_with (go_at_call 33; refine (HS.out _).mono ?_; rintro e w1 ⟨rfl, hb1⟩; obtain ⟨hc1, hf1⟩ := hb1.cells; have hz1 := hb1.size; (repeat (first | rw [World.size_alloc] at hz1 | rw [World.size_drew] at hz1)); have z1_0 : w.heap.size < w1.heap.size := (by omega); have z1_1 : w.heap.size + 1 < w1.heap.size := (by omega); have z1_2 : w.heap.size + 2 < w1.heap.size := (by omega))
  refine (H1.out _ (by (with_reducible (repeat' (first | exact Ext.refl _ | assumption | refine Ext.drew ?_ | refine Ext.drewN ?_ _ | refine Ext.alloc ?_ _ | refine Ext.setCell ?_ ?_ _ | refine Ext.trans ?_ (by assumption)))); all_goals (first | (simp; done) | (simp; omega)))).mono ?_
  rintro e w3 ⟨v1, rfl, hb3⟩
  obtain ⟨hc3, hf3⟩ := hb3.cells; have hz3 := hb3.size; (repeat (first | rw [World.size_alloc] at hz3 | rw [World.size_drew] at hz3)); have z3_0 : w.heap.size < w3.heap.size := (by omega); have z3_1 : w.heap.size + 1 < w3.heap.size := (by omega); have z3_2 : w.heap.size + 2 < w3.heap.size := (by omega)
  go_wp2_with (first
    | (go_at_call 40; refine (H2.out _).mono ?_; rintro e w4 ⟨rfl, hb4⟩)
    | (go_at_call 34; refine (awake08_any _).mono ?_; rintro e w2 ⟨rfl, hb2⟩))
  go_ret
  exact ⟨rfl, (by (with_reducible (repeat' (first | exact Ext.refl _ | assumption | refine Ext.drew ?_ | refine Ext.drewN ?_ _ | refine Ext.alloc ?_ _ | refine Ext.setCell ?_ ?_ _ | refine Ext.trans ?_ (by assumption)))); all_goals (first | (simp; done) | (simp; omega)))⟩

set_option maxRecDepth 100000 in
set_option maxHeartbeats 1000000 in
theorem ft_ok {w : World} {W H : Int} {a : Option Addr} {l : List Int} (c : Nat) (bx byy bw bh fx fy tx ty : Int) (hr : Row16 w a l) (hu : U16s l) (hn : (l.length : Int) ≤ 150) (he : lookE W H l.length bx byy bw bh fx fy = 0) (ht : hasB bx byy bw bh tx ty = true) :
    Calls Try.prog 14 #[.agg #[.int .i64 W, .int .i64 H, .slice a l.length c], .agg #[.int .i64 bx, .int .i64 byy, .int .i64 bw, .int .i64 bh], .agg #[.int .i64 fx, .int .i64 fy, .int .i64 tx, .int .i64 ty]] w fun e w' => e = .returned (.bool true) ∧ Ext w w' := by
  have HS := hide (fun w' => small08_any W H a l.length c w')
  rw [show decide ((l.length : Int) ≤ 150) = true by simpa using hn] at HS
  have lp := landP_of he hu
  have LP := hide lp
  obtain ⟨G, hG⟩ : ∃ G, mapNet lp = G := ⟨_, rfl⟩
  have H1 := hide (fun (w' : World) (hx : Ext w w') => fWithin_ok c he (hr.ext hx) hu)
  have H2 := hide (fun (w' : World) (hx : Ext w w') => fPath_uni c tx ty he (hr.ext hx) hu ht)
  have H3 := hide (fun (w' : World) (hx : Ext w w') (v : Nat) (hv : G.op v = true) => fWithin_ok c (look_in he hu (show (mapNet (landP_of he hu)).op v = true by rw [show mapNet (landP_of he hu) = G from hG]; exact hv)) (hr.ext hx) hu)
  have H4 := hide (fun (w' : World) (g cg base : Nat) (far : Nat → Int) (fa : FarAt w' base g cg far l.length) => at08_in lp a c fa tx ty ht)
  have hv3 : ∀ v, G.op v = true → idxN W (vx W v, vy W v) = v := fun v _ => idx_v lp.wh.1 v
  obtain ⟨hm, hl, hf, hh⟩ := lookE_ok.1 he
  have wh := lp.wh
  have HHa := hide (fun (w' : World) => rHas_any bx byy bw bh tx ty w' (fitsR_true.1 hf).1 (fitsR_true.1 hf).2.1 (by have := lp.in_ ht; unfold InI; omega) (by have := lp.in_ ht; unfold InI; omega))
  rw [ht] at HHa
  have n1 : 1 ≤ l.length := by have := lp.idx_lt (lp.in_ hh); omega
  have htn := lp.idx_lt (lp.in_ ht)
  have HVI := hide (fun (v : Nat) (hv : v < l.length) => lp.v_in hv)
  have HGN := hide (show G.n = l.length by rw [← hG]; rfl)
  have HV3 := hide hv3
  rw [show mapNet (landP_of he hu) = G from hG] at H1 H2
  change Hid (∀ (w' : World) (hx : Ext w w') (v : Nat) (hv : G.op v = true), Calls Try.prog 35 #[.agg #[.int .i64 W, .int .i64 H, .slice a l.length c], .agg #[.int .i64 bx, .int .i64 byy, .int .i64 bw, .int .i64 bh], .agg #[.int .i64 (vx W v), .int .i64 (vy W v)]] w' fun e w'' =>
      ∃ v3 far, e = .returned (.tuple #[v3, .int .i64 0]) ∧ Ext w' w'' ∧ Own u64E w'' w'.heap.size 53 v3 (farL far l.length) ∧ IsFar (mapNet lp) (idxN W (vx W v, vy W v)) far ∧ FarLow (mapNet lp) far) at H3
  rw [hG] at H3
  obtain ⟨s, hs⟩ : ∃ s, idxN W (fx, fy) = s := ⟨_, rfl⟩
  obtain ⟨t, htt⟩ : ∃ t, idxN W (tx, ty) = t := ⟨_, rfl⟩
  rw [hs] at H1 H2
  rw [htt] at H2 H4 htn
  obtain ⟨n, hnn⟩ : ∃ n, l.length = n := ⟨_, rfl⟩
  rw [hnn] at HS H1 H2 H3 H4 HVI HGN n1 htn wh ⊢
  clear hr hu hn he hm hl hf hG hnn hh ht hv3 hs htt
  clear lp
  go_enter Try.func14, Try.ntmps14
  go_wp2_with (go_at_call 33; refine (HS.out _).mono ?_; rintro e w1 ⟨rfl, hb1⟩; obtain ⟨hc1, hf1⟩ := hb1.cells; have hz1 := hb1.size; (repeat (first | rw [World.size_alloc] at hz1 | rw [World.size_drew] at hz1)); have z1_0 : w.heap.size < w1.heap.size := (by omega); have z1_1 : w.heap.size + 1 < w1.heap.size := (by omega); have z1_2 : w.heap.size + 2 < w1.heap.size := (by omega))
  refine (H1.out _ (by (with_reducible (repeat' (first | exact Ext.refl _ | assumption | refine Ext.drew ?_ | refine Ext.drewN ?_ _ | refine Ext.alloc ?_ _ | refine Ext.setCell ?_ ?_ _ | refine Ext.trans ?_ (by assumption)))); all_goals (first | (simp; done) | (simp; omega)))).mono ?_
  rintro e w2 ⟨v1, far, rfl, hb2, hv1, F1, L1⟩
  obtain ⟨hc2, hf2⟩ := hb2.cells; have hz2 := hb2.size; (repeat (first | rw [World.size_alloc] at hz2 | rw [World.size_drew] at hz2)); have z2_0 : w.heap.size < w2.heap.size := (by omega); have z2_1 : w.heap.size + 1 < w2.heap.size := (by omega); have z2_2 : w.heap.size + 2 < w2.heap.size := (by omega)
  obtain ⟨g, cg, rfl, A1⟩ := far_slice hv1 (by omega)
  have FF := hide F1
  have LL := hide L1
  have AA := hide A1
  clear F1 L1 A1 hv1 H1
  go_wp2_with fail
  refine (H2.out _ (by (with_reducible (repeat' (first | exact Ext.refl _ | assumption | refine Ext.drew ?_ | refine Ext.drewN ?_ _ | refine Ext.alloc ?_ _ | refine Ext.setCell ?_ ?_ _ | refine Ext.trans ?_ (by assumption)))); all_goals (first | (simp; done) | (simp; omega)))).mono ?_
  rintro e w3 ⟨f2, v, q, pc, ge, rfl, hb3, hRq, hql, F2, L2, hge⟩
  obtain ⟨hc3, hf3⟩ := hb3.cells; have hz3 := hb3.size; (repeat (first | rw [World.size_alloc] at hz3 | rw [World.size_drew] at hz3)); have z3_0 : w.heap.size < w3.heap.size := (by omega); have z3_1 : w.heap.size + 1 < w3.heap.size := (by omega); have z3_2 : w.heap.size + 2 < w3.heap.size := (by omega)
  have f2t : f2 t = far t := F2.same FF.out t
  have HWq := hide (fun u (hu : u ∈ q) => path_way F2 hge hu)
  have hgt : ge = 0 ∧ far t < infI ∨ ge = 22 ∧ far t = infI := by
    rcases hge with ⟨h1, h2, _⟩ | ⟨h1, h2, _⟩
    · exact .inl ⟨h1, by omega⟩
    · exact .inr ⟨h1, by omega⟩
  have SF2 := hide (fun u => F2.same FF.out u)
  obtain ⟨pa, pcap, rfl⟩ := hRq.slice
  rw [List.length_map] at hRq ⊢
  have RQ := hide hRq
  have hx3 : Ext w w3 := (by (with_reducible (repeat' (first | exact Ext.refl _ | assumption | refine Ext.drew ?_ | refine Ext.drewN ?_ _ | refine Ext.alloc ?_ _ | refine Ext.setCell ?_ ?_ _ | refine Ext.trans ?_ (by assumption)))); all_goals (first | (simp; done) | (simp; omega)))
  have q0 : w3.cell? ⟨w.heap.size, 0, none⟩ = some (.int .i64 W) := by rw [hc3 _ _ z2_0, hc2 _ _ z1_0, hc1 _ _ (by simp; omega)]; simp [go_sem]
  have q1 : w3.cell? ⟨w.heap.size, 1, none⟩ = some (.int .i64 H) := by rw [hc3 _ _ z2_0, hc2 _ _ z1_0, hc1 _ _ (by simp; omega)]; simp [go_sem]
  have q2 : w3.cell? ⟨w.heap.size, 2, none⟩ = some (.slice a n c) := by rw [hc3 _ _ z2_0, hc2 _ _ z1_0, hc1 _ _ (by simp; omega)]; simp [go_sem]
  have q3 : w3.cell? ⟨w.heap.size + 1, 0, none⟩ = some (.int .i64 bx) := by rw [hc3 _ _ z2_1, hc2 _ _ z1_1, hc1 _ _ (by simp)]; simp [go_sem]
  have q4 : w3.cell? ⟨w.heap.size + 1, 1, none⟩ = some (.int .i64 byy) := by rw [hc3 _ _ z2_1, hc2 _ _ z1_1, hc1 _ _ (by simp)]; simp [go_sem]
  have q5 : w3.cell? ⟨w.heap.size + 1, 2, none⟩ = some (.int .i64 bw) := by rw [hc3 _ _ z2_1, hc2 _ _ z1_1, hc1 _ _ (by simp)]; simp [go_sem]
  have q6 : w3.cell? ⟨w.heap.size + 1, 3, none⟩ = some (.int .i64 bh) := by rw [hc3 _ _ z2_1, hc2 _ _ z1_1, hc1 _ _ (by simp)]; simp [go_sem]
  have q7 : w3.cell? ⟨w.heap.size + 2, 2, none⟩ = some (.int .i64 tx) := by rw [hc3 _ _ z2_2, hc2 _ _ z1_2, hc1 _ _ (by simp)]; simp [go_sem]
  have q8 : w3.cell? ⟨w.heap.size + 2, 3, none⟩ = some (.int .i64 ty) := by rw [hc3 _ _ z2_2, hc2 _ _ z1_2, hc1 _ _ (by simp)]; simp [go_sem]
  have zz : w.heap.size + 2 < w3.heap.size := z3_2
  have y0 : w.heap.size < w3.heap.size := by omega
  have y1 : w.heap.size + 1 < w3.heap.size := by omega
  have HX3 := hide hx3
  have A3 := hide (AA.out.ext hb3)
  have Q := hide (show _ ∧ _ ∧ _ ∧ _ ∧ _ ∧ _ ∧ _ ∧ _ ∧ _ from ⟨q0, q1, q2, q3, q4, q5, q6, q7, q8⟩)
  have hg1 : (ge != 0) = true → (ge != 22) = false := by
    rcases hgt with ⟨rfl, _⟩ | ⟨rfl, _⟩ <;> simp
  have HGT := hide hgt
  have HL := hide hql
  have HF := hide f2t
  clear hc1 hc2 hc3 hf1 hf2 hf3 hb1 hb2 hb3 hz1 hz2 hz3 z1_0 z1_1 z1_2 z2_0 z2_1 z2_2 z3_0 z3_1 z3_2 HS H2 hx3 hRq hql F2 L2 hge f2t hgt AA hg1
  go_upto_region 5 with (fail)
  go_cut [51] from 42 to 51 (fun s51 wx => s51 = .bool false ∧ wx = w3)
  case first =>
    rcases HGT.out with ⟨rfl, _⟩ | ⟨rfl, _⟩
    all_goals
      go_wp2_with fail
      go_meet
      exact ⟨rfl, rfl⟩
  case rest =>
    obtain ⟨rfl, rfl⟩ := hcut
    go_wp2_with (go_at_call 41; refine (HHa.out _).mono ?_; rintro e w4 ⟨rfl, hb4⟩; obtain ⟨hc4, hf4⟩ := hb4.cells; have hz4 := hb4.size; (repeat (first | rw [World.size_alloc] at hz4 | rw [World.size_drew] at hz4)); have z4_0 : w.heap.size < w4.heap.size := (by omega); have z4_1 : w.heap.size + 1 < w4.heap.size := (by omega); have z4_2 : w.heap.size + 2 < w4.heap.size := (by omega))
    refine (H4.out _ g cg _ far (A3.out.ext (by (with_reducible (repeat' (first | exact Ext.refl _ | assumption | refine Ext.drew ?_ | refine Ext.drewN ?_ _ | refine Ext.alloc ?_ _ | refine Ext.setCell ?_ ?_ _ | refine Ext.trans ?_ (by assumption)))); all_goals (first | (simp; done) | (simp; omega))))).mono ?_
    rintro e w5 ⟨rfl, hb5⟩
    have h35 := hb4.trans hb5
    obtain ⟨q0, q1, q2, q3, q4, q5, q6, q7, q8⟩ := Q.out
    have r0 := (h35.cell (p := ⟨w.heap.size, 0, none⟩) y0).trans q0
    have r1 := (h35.cell (p := ⟨w.heap.size, 1, none⟩) y0).trans q1
    have r2 := (h35.cell (p := ⟨w.heap.size, 2, none⟩) y0).trans q2
    have r3 := (h35.cell (p := ⟨w.heap.size + 1, 0, none⟩) y1).trans q3
    have r4 := (h35.cell (p := ⟨w.heap.size + 1, 1, none⟩) y1).trans q4
    have r5 := (h35.cell (p := ⟨w.heap.size + 1, 2, none⟩) y1).trans q5
    have r6 := (h35.cell (p := ⟨w.heap.size + 1, 3, none⟩) y1).trans q6
    have r7 := (h35.cell (p := ⟨w.heap.size + 2, 2, none⟩) zz).trans q7
    have r8 := (h35.cell (p := ⟨w.heap.size + 2, 3, none⟩) zz).trans q8
    have Q5 := hide (show _ ∧ _ ∧ _ ∧ _ ∧ _ ∧ _ ∧ _ ∧ _ ∧ _ from ⟨r0, r1, r2, r3, r4, r5, r6, r7, r8⟩)
    have A5 := hide (A3.out.ext h35)
    have RQ5 := hide (RQ.out.ext h35)
    have HX5 := hide (HX3.out.trans h35)
    have zz5 : w.heap.size + 2 < w5.heap.size := by have := h35.size; omega
    have zz0 : w.heap.size < w5.heap.size := by omega
    have zz1 : w.heap.size + 1 < w5.heap.size := by omega
    clear q0 q1 q2 q3 q4 q5 q6 q7 q8 r0 r1 r2 r3 r4 r5 r6 r7 r8 hc4 hf4 hz4 hb4 hb5 z4_0 z4_1 z4_2 Q A3 RQ HX3 h35 zz y0 y1
    go_wp2_with fail
    go_loopw [13] (fun i wr => ∃ k : Nat, k ≤ n ∧ i = .int .i64 k ∧ Ext w5 wr) (fun i _ => n - (intOf i).toNat)
    case atStart => exact ⟨0, by omega, rfl, Ext.refl _⟩
    case round =>
      obtain ⟨k, hk, rfl, hext⟩ := hrel
      have HXr := hide hext
      by_cases hlt : k < n
      · obtain ⟨b0, b1, b2, b3, b4, b5, b6, b7, b8⟩ := Q5.out
        have q0 := (hext.cell (p := ⟨w.heap.size, 0, none⟩) zz0).trans b0
        have zr := hext.size
        have zr0 : w.heap.size < wr.heap.size := by omega
        have k1 : (k : Int).tmod W = vx W k := tmod_in (by omega) (by omega) (by omega)
        have k2 : IntKind.i64.wrap ((k : Int).tdiv W) = vy W k := tdiv_in (by omega) (by omega) (by omega)
        have fc := ((A5.out.ext hext).cell hlt).1
        have zg := (A5.out.ext hext).lt.2
        have k2' : IntKind.i64.wrap ((k : Int) / W) = vy W k := by rw [← k2, Int.tdiv_eq_ediv_of_nonneg (by omega)]
        have eI : infI = 18446744073709551615 := rfl
        have hW0 : ¬ W = 0 := by omega
        obtain ⟨fk, hfk⟩ : ∃ z, far k = z := ⟨_, rfl⟩
        have HFK := hide hfk
        rw [hfk] at fc
        clear hfk b0 b1 b2 b3 b4 b5 b6 b7 b8
        go_wp2_with fail
        refine wp_region_held_drew (S := (fun W => (∀ b o, b < wr.heap.size → W.cell? ⟨b, o, none⟩ = wr.cell? ⟨b, o, none⟩) ∧ Ext wr W)) (by kernel_rfl) (pr_start _) (fun hHeld => ?_)
        (((refine wpAnyH_take (i := 0) (oi := ?g123_o) (v := ?g123_v) ?g123_hi (by kernel_rfl) (by kernel_rfl) (by kernel_rfl) ?g123_hq ?g123_hy (by assumption) ?g123_gr; (case g123_hi => (simp only [List.getElem?_toArray, List.getElem?_cons_zero]; rfl)); (case g123_hq => exact fun _ _ _ h => h); (case g123_hy => (refine Or.inl ⟨by rfl, ?_⟩; intro w hSw; (try dsimp only at hSw); go_simp; try with_reducible rfl)); try simp only [Act.put, List.setIfInBounds_toArray, List.set_cons_zero, List.set_cons_succ])); ((refine wpAnyH_take (i := 1) (oi := ?g124_o) (v := ?g124_v) ?g124_hi (by kernel_rfl) (by kernel_rfl) (by kernel_rfl) ?g124_hq ?g124_hy (by assumption) ?g124_gr; (case g124_hi => (simp only [List.getElem?_toArray, List.getElem?_cons_succ, List.getElem?_cons_zero]; rfl)); (case g124_hq => exact fun _ _ _ h => h); (case g124_hy => (refine Or.inl ⟨by rfl, ?_⟩; intro w hSw; (try dsimp only at hSw); go_simp; try with_reducible rfl)); try simp only [Act.put, List.setIfInBounds_toArray, List.set_cons_zero, List.set_cons_succ])); ((refine wpAnyH_take (i := 2) (oi := ?g125_o) (v := ?g125_v) ?g125_hi (by kernel_rfl) (by kernel_rfl) (by kernel_rfl) ?g125_hq ?g125_hy (by assumption) ?g125_gr; (case g125_hi => (simp only [List.getElem?_toArray, List.getElem?_cons_succ, List.getElem?_cons_zero]; rfl)); (case g125_hq => exact fun _ _ _ h => h); (case g125_hy => (refine Or.inl ⟨by rfl, ?_⟩; intro w hSw; (try dsimp only at hSw); go_simp; try with_reducible rfl)); try simp only [Act.put, List.setIfInBounds_toArray, List.set_cons_zero, List.set_cons_succ])); ((refine wpAnyH_take (i := 3) (oi := ?g126_o) (v := ?g126_v) ?g126_hi (by kernel_rfl) (by kernel_rfl) (by kernel_rfl) ?g126_hq ?g126_hy (by assumption) ?g126_gr; (case g126_hi => (simp only [List.getElem?_toArray, List.getElem?_cons_succ, List.getElem?_cons_zero]; rfl)); (case g126_hq => exact fun _ _ _ h => h); (case g126_hy => (refine Or.inl ⟨by rfl, ?_⟩; intro w hSw; (try dsimp only at hSw); go_simp; try with_reducible rfl)); try simp only [Act.put, List.setIfInBounds_toArray, List.set_cons_zero, List.set_cons_succ])); ((refine wpAnyH_take (i := 4) (oi := ?g127_o) (v := ?g127_v) ?g127_hi (by kernel_rfl) (by kernel_rfl) (by kernel_rfl) ?g127_hq ?g127_hy (by assumption) ?g127_gr; (case g127_hi => (simp only [List.getElem?_toArray, List.getElem?_cons_succ, List.getElem?_cons_zero]; rfl)); (case g127_hq => exact fun _ _ _ h => h); (case g127_hy => (refine Or.inl ⟨by rfl, ?_⟩; intro w hSw; (try dsimp only at hSw); go_simp; try with_reducible rfl)); try simp only [Act.put, List.setIfInBounds_toArray, List.set_cons_zero, List.set_cons_succ])); ((refine wpAnyH_take (i := 5) (oi := ?g128_o) (v := ?g128_v) ?g128_hi (by kernel_rfl) (by kernel_rfl) (by kernel_rfl) ?g128_hq ?g128_hy (by assumption) ?g128_gr; (case g128_hi => (simp only [List.getElem?_toArray, List.getElem?_cons_succ, List.getElem?_cons_zero]; rfl)); (case g128_hq => exact fun _ _ _ h => h); (case g128_hy => (refine Or.inl ⟨by rfl, ?_⟩; intro w hSw; (try dsimp only at hSw); go_simp; try with_reducible rfl)); try simp only [Act.put, List.setIfInBounds_toArray, List.set_cons_zero, List.set_cons_succ])); ((refine wpAnyH_take (i := 6) (oi := ?g129_o) (v := ?g129_v) ?g129_hi (by kernel_rfl) (by kernel_rfl) (by kernel_rfl) ?g129_hq ?g129_hy (by assumption) ?g129_gr; (case g129_hi => (simp only [List.getElem?_toArray, List.getElem?_cons_succ, List.getElem?_cons_zero]; rfl)); (case g129_hq => exact fun _ _ _ h => h); (case g129_hy => (refine Or.inl ⟨by rfl, ?_⟩; intro w hSw; (try dsimp only at hSw); go_simp; try with_reducible rfl)); try simp only [Act.put, List.setIfInBounds_toArray, List.set_cons_zero, List.set_cons_succ])); ((refine wpAnyH_take (i := 7) (oi := ?g130_o) (v := ?g130_v) ?g130_hi (by kernel_rfl) (by kernel_rfl) (by kernel_rfl) ?g130_hq ?g130_hy (by assumption) ?g130_gr; (case g130_hi => (simp only [List.getElem?_toArray, List.getElem?_cons_succ, List.getElem?_cons_zero]; rfl)); (case g130_hq => exact fun _ _ _ h => h); (case g130_hy => (refine Or.inl ⟨by rfl, ?_⟩; intro w hSw; (try dsimp only at hSw); go_simp; try with_reducible rfl)); try simp only [Act.put, List.setIfInBounds_toArray, List.set_cons_zero, List.set_cons_succ])); ((refine wpAnyH_take (i := 8) (oi := ?g131_o) (v := ?g131_v) ?g131_hi (by kernel_rfl) (by kernel_rfl) (by kernel_rfl) ?g131_hq ?g131_hy (by assumption) ?g131_gr; (case g131_hi => (simp only [List.getElem?_toArray, List.getElem?_cons_succ, List.getElem?_cons_zero]; rfl)); (case g131_hq => exact fun _ _ _ h => h); (case g131_hy => (refine Or.inl ⟨by rfl, ?_⟩; intro w hSw; (try dsimp only at hSw); go_simp; try with_reducible rfl)); try simp only [Act.put, List.setIfInBounds_toArray, List.set_cons_zero, List.set_cons_succ])); ((refine wpAnyH_take (i := 9) (oi := ?g132_o) (v := ?g132_v) ?g132_hi (by kernel_rfl) (by kernel_rfl) (by kernel_rfl) ?g132_hq ?g132_hy (by assumption) ?g132_gr; (case g132_hi => (simp only [List.getElem?_toArray, List.getElem?_cons_succ, List.getElem?_cons_zero]; rfl)); (case g132_hq => exact fun _ _ _ h => h); (case g132_hy => (refine Or.inl ⟨by rfl, ?_⟩; intro w hSw; (try dsimp only at hSw); go_simp; try with_reducible rfl)); try simp only [Act.put, List.setIfInBounds_toArray, List.set_cons_zero, List.set_cons_succ])); ((refine wpAnyH_take (i := 10) (oi := ?g133_o) (v := ?g133_v) ?g133_hi (by kernel_rfl) (by kernel_rfl) (by kernel_rfl) ?g133_hq ?g133_hy (by assumption) ?g133_gr; (case g133_hi => (simp only [List.getElem?_toArray, List.getElem?_cons_succ, List.getElem?_cons_zero]; rfl)); (case g133_hq => exact fun _ _ _ h => h); (case g133_hy => (refine Or.inl ⟨by rfl, ?_⟩; intro w hSw; (try dsimp only at hSw); go_simp; try with_reducible rfl)); try simp only [Act.put, List.setIfInBounds_toArray, List.set_cons_zero, List.set_cons_succ])))
        (refine wpAnyH_ready (rs := [11]) (by kernel_rfl) (by simp) ?_; refine AllReadyH.cons (o := ?g134_o) ?g134_hi (fun K hK => ?_) AllReadyH.nil; (case g134_hi => (simp only [List.getElem?_toArray, List.getElem?_cons_succ, List.getElem?_cons_zero]; rfl)); go_simp; refine hK.out _ _ (pr_of (by (with_reducible (repeat' (first | exact Ext.refl _ | assumption | refine Ext.drew ?_ | refine Ext.drewN ?_ _ | refine Ext.alloc ?_ _ | refine Ext.setCell ?_ ?_ _ | refine Ext.trans ?_ (by assumption)))); all_goals (first | (simp; done) | (simp; omega)))) (fun hHeld => ?_); clear hK K; try simp only [Act.put, List.setIfInBounds_toArray, List.set_cons_zero, List.set_cons_succ])
        (refine wpAnyH_ready (rs := [12]) (by kernel_rfl) (by simp) ?_; refine AllReadyH.cons (o := ?g135_o) ?g135_hi (fun K hK => ?_) AllReadyH.nil; (case g135_hi => (simp only [List.getElem?_toArray, List.getElem?_cons_succ, List.getElem?_cons_zero]; rfl)); go_simp; refine hK.out _ _ (pr_of (by (with_reducible (repeat' (first | exact Ext.refl _ | assumption | refine Ext.drew ?_ | refine Ext.drewN ?_ _ | refine Ext.alloc ?_ _ | refine Ext.setCell ?_ ?_ _ | refine Ext.trans ?_ (by assumption)))); all_goals (first | (simp; done) | (simp; omega)))) (fun hHeld => ?_); clear hK K; try simp only [Act.put, List.setIfInBounds_toArray, List.set_cons_zero, List.set_cons_succ])
        refine wpAnyH_done (by kernel_rfl) ?_ _
        obtain ⟨w6, hw6⟩ : ∃ w6, w6 = (wr.alloc (.cells #[.int .i64 (vx W k), .int .i64 (vy W k)] 49)).drew := ⟨_, rfl⟩
        have hx6 : Ext wr w6 := by rw [hw6]; exact ((Ext.refl _).alloc _).drew
        have c60 : w6.cell? ⟨wr.heap.size, 0, none⟩ = some (.int .i64 (vx W k)) := by rw [hw6]; simp [go_sem]
        have c61 : w6.cell? ⟨wr.heap.size, 1, none⟩ = some (.int .i64 (vy W k)) := by rw [hw6]; simp [go_sem]
        have z6 : wr.heap.size < w6.heap.size := by rw [hw6]; simp
        rw [← hw6]
        clear hw6 hHeld
        have fc6 := (hx6.cell (p := ⟨g, k, none⟩) zg).trans fc
        have HX6 := hide (HXr.out.trans hx6)
        have zg6 : g < w6.heap.size := Nat.lt_of_lt_of_le zg hx6.size
        obtain ⟨cb, hcb⟩ : ∃ z, wr.heap.size = z := ⟨_, rfl⟩
        rw [hcb] at c60 c61 z6 ⊢
        clear hcb hx6 fc q0
        have zx6 := HX6.out.size
        obtain ⟨b0, b1, b2, b3, b4, b5, b6, b7, b8⟩ := Q5.out
        have q0 := (HX6.out.cell (p := ⟨w.heap.size, 0, none⟩) zz0).trans b0
        have q1 := (HX6.out.cell (p := ⟨w.heap.size, 1, none⟩) zz0).trans b1
        have q2 := (HX6.out.cell (p := ⟨w.heap.size, 2, none⟩) zz0).trans b2
        have q3 := (HX6.out.cell (p := ⟨w.heap.size + 1, 0, none⟩) zz1).trans b3
        have q4 := (HX6.out.cell (p := ⟨w.heap.size + 1, 1, none⟩) zz1).trans b4
        have q5 := (HX6.out.cell (p := ⟨w.heap.size + 1, 2, none⟩) zz1).trans b5
        have q6 := (HX6.out.cell (p := ⟨w.heap.size + 1, 3, none⟩) zz1).trans b6
        have z60 : w.heap.size < w6.heap.size := by omega
        have z61 : w.heap.size + 1 < w6.heap.size := by omega
        clear b0 b1 b2 b3 b4 b5 b6 b7 b8 zr zr0 k1 k2 k2' hW0 hext zx6
        by_cases hf0 : fk = 18446744073709551615
        · subst hf0
          go_wp2_with fail
          go_roundw
          case rel => exact ⟨k + 1, by omega, by go_num, HX6.out⟩
          case measure => simp [intOf]; omega
        · have hfb : (fk == 18446744073709551615) = false := by simpa using hf0
          have hki : far k < infI := by
            have h1 := FF.out.le k
            rw [HFK.out] at h1 ⊢
            omega
          have hop := FF.out.open_ hki
          have HKI := hide hki
          have fk0 : 0 ≤ fk ∧ fk ≤ 18446744073709551615 := by
            have h1 := FF.out.nn k
            have h2 := FF.out.le k
            rw [HFK.out] at h1 h2
            omega
          clear hki
          go_wp2_with fail
          refine (H3.out _ (HX5.out.trans HX6.out) k hop).mono ?_
          rintro e w7 ⟨v3, on, rfl, hb7, hv3, F3, L3⟩
          obtain ⟨g3, cg3, rfl, A7⟩ := far_slice hv3 (by omega)
          rw [HV3.out k hop] at F3
          have hle := three_sat (t := t) (by rw [HGN.out]; omega) FF.out F3 LL.out L3 HKI.out
          rw [HFK.out] at hle
          have HF3 := hide F3
          have HL3 := hide L3
          have AA7 := hide A7
          have o0 := F3.nn t
          have o1 := F3.le t
          obtain ⟨ont, hon⟩ : ∃ z, on t = z := ⟨_, rfl⟩
          have HON := hide hon
          rw [hon] at hle o0 o1
          have S3 := hide (fun w' => satAdd_any fk ont w' fk0.1 o0 fk0.2 (by omega))
          change Hid (∀ w', Calls Try.prog 45 #[.int .u64 fk, .int .u64 ont] w' fun e w'' => e = .returned (.int .u64 (satS fk ont)) ∧ Ext w' w'') at S3
          obtain ⟨th, hth⟩ : ∃ z, satS fk ont = z := ⟨_, rfl⟩
          have HTH := hide hth
          rw [hth] at S3 hle
          have S4 := hide (fun (w' : World) (hx : Ext w7 w') => (by have := H4.out w' g3 cg3 _ on (AA7.out.ext hx); rw [hon] at this; exact this : Calls Try.prog 46 #[.agg #[.int .i64 W, .int .i64 H, .slice a n c], .agg #[.int .i64 bx, .int .i64 byy, .int .i64 bw, .int .i64 bh], .slice (some ⟨g3, 0, none⟩) n cg3, .agg #[.int .i64 tx, .int .i64 ty]] w' fun e w'' => e = .returned (.int .u64 ont) ∧ Ext w' w''))
          have hthd : decide (th < far t) = false := by simp; omega
          obtain ⟨b0, b1, b2, b3, b4, b5, b6, b7, b8⟩ := Q5.out
          have p0 := (hb7.cell (p := ⟨w.heap.size, 0, none⟩) z60).trans q0
          have p1 := (hb7.cell (p := ⟨w.heap.size, 1, none⟩) z60).trans q1
          have p2 := (hb7.cell (p := ⟨w.heap.size, 2, none⟩) z60).trans q2
          have p3 := (hb7.cell (p := ⟨w.heap.size + 1, 0, none⟩) z61).trans q3
          have p4 := (hb7.cell (p := ⟨w.heap.size + 1, 1, none⟩) z61).trans q4
          have p5 := (hb7.cell (p := ⟨w.heap.size + 1, 2, none⟩) z61).trans q5
          have p6 := (hb7.cell (p := ⟨w.heap.size + 1, 3, none⟩) z61).trans q6
          have p7 := ((HX6.out.trans hb7).cell (p := ⟨w.heap.size + 2, 2, none⟩) zz5).trans b7
          have p8 := ((HX6.out.trans hb7).cell (p := ⟨w.heap.size + 2, 3, none⟩) zz5).trans b8
          have fc7 := (hb7.cell (p := ⟨g, k, none⟩) zg6).trans fc6
          have c70 := (hb7.cell (p := ⟨cb, 0, none⟩) z6).trans c60
          have c71 := (hb7.cell (p := ⟨cb, 1, none⟩) z6).trans c61
          have zh := hb7.size
          have z70 : w.heap.size < w7.heap.size := by omega
          have z71 : w.heap.size + 1 < w7.heap.size := by omega
          have z72 : w.heap.size + 2 < w7.heap.size := by have := (HX6.out.trans hb7).size; omega
          have zg7 : g < w7.heap.size := by omega
          have zc7 : cb < w7.heap.size := by omega
          have HX7 := hide (HX6.out.trans hb7)
          clear hv3 F3 L3 A7 hb7 q0 q1 q2 q3 q4 q5 q6 b0 b1 b2 b3 b4 b5 b6 b7 b8 c60 c61 fc6 z60 z61 zg6 zh hon hth hle o0 o1 fk0 z6 hf0 hop
          go_wp2_with fail
          refine wp_region_held_drew (S := (fun W => (∀ b o, b < w7.heap.size → W.cell? ⟨b, o, none⟩ = w7.cell? ⟨b, o, none⟩) ∧ Ext w7 W)) (by kernel_rfl) (pr_start _) (fun hHeld => ?_)
          (((refine wpAnyH_take (i := 0) (oi := ?g136_o) (v := ?g136_v) ?g136_hi (by kernel_rfl) (by kernel_rfl) (by kernel_rfl) ?g136_hq ?g136_hy (by assumption) ?g136_gr; (case g136_hi => (simp only [List.getElem?_toArray, List.getElem?_cons_zero]; rfl)); (case g136_hq => exact fun _ _ _ h => h); (case g136_hy => (refine Or.inl ⟨by rfl, ?_⟩; intro w hSw; (try dsimp only at hSw); go_simp; try with_reducible rfl)); try simp only [Act.put, List.setIfInBounds_toArray, List.set_cons_zero, List.set_cons_succ])); ((refine wpAnyH_take (i := 1) (oi := ?g137_o) (v := ?g137_v) ?g137_hi (by kernel_rfl) (by kernel_rfl) (by kernel_rfl) ?g137_hq ?g137_hy (by assumption) ?g137_gr; (case g137_hi => (simp only [List.getElem?_toArray, List.getElem?_cons_succ, List.getElem?_cons_zero]; rfl)); (case g137_hq => exact fun _ _ _ h => h); (case g137_hy => (refine Or.inl ⟨by rfl, ?_⟩; intro w hSw; (try dsimp only at hSw); go_simp; try with_reducible rfl)); try simp only [Act.put, List.setIfInBounds_toArray, List.set_cons_zero, List.set_cons_succ])); ((refine wpAnyH_take (i := 2) (oi := ?g138_o) (v := ?g138_v) ?g138_hi (by kernel_rfl) (by kernel_rfl) (by kernel_rfl) ?g138_hq ?g138_hy (by assumption) ?g138_gr; (case g138_hi => (simp only [List.getElem?_toArray, List.getElem?_cons_succ, List.getElem?_cons_zero]; rfl)); (case g138_hq => exact fun _ _ _ h => h); (case g138_hy => (refine Or.inl ⟨by rfl, ?_⟩; intro w hSw; (try dsimp only at hSw); go_simp; try with_reducible rfl)); try simp only [Act.put, List.setIfInBounds_toArray, List.set_cons_zero, List.set_cons_succ])); ((refine wpAnyH_take (i := 3) (oi := ?g139_o) (v := ?g139_v) ?g139_hi (by kernel_rfl) (by kernel_rfl) (by kernel_rfl) ?g139_hq ?g139_hy (by assumption) ?g139_gr; (case g139_hi => (simp only [List.getElem?_toArray, List.getElem?_cons_succ, List.getElem?_cons_zero]; rfl)); (case g139_hq => exact fun _ _ _ h => h); (case g139_hy => (refine Or.inl ⟨by rfl, ?_⟩; intro w hSw; (try dsimp only at hSw); go_simp; try with_reducible rfl)); try simp only [Act.put, List.setIfInBounds_toArray, List.set_cons_zero, List.set_cons_succ])); ((refine wpAnyH_take (i := 4) (oi := ?g140_o) (v := ?g140_v) ?g140_hi (by kernel_rfl) (by kernel_rfl) (by kernel_rfl) ?g140_hq ?g140_hy (by assumption) ?g140_gr; (case g140_hi => (simp only [List.getElem?_toArray, List.getElem?_cons_succ, List.getElem?_cons_zero]; rfl)); (case g140_hq => exact fun _ _ _ h => h); (case g140_hy => (refine Or.inl ⟨by rfl, ?_⟩; intro w hSw; (try dsimp only at hSw); go_simp; try with_reducible rfl)); try simp only [Act.put, List.setIfInBounds_toArray, List.set_cons_zero, List.set_cons_succ])); ((refine wpAnyH_take (i := 5) (oi := ?g141_o) (v := ?g141_v) ?g141_hi (by kernel_rfl) (by kernel_rfl) (by kernel_rfl) ?g141_hq ?g141_hy (by assumption) ?g141_gr; (case g141_hi => (simp only [List.getElem?_toArray, List.getElem?_cons_succ, List.getElem?_cons_zero]; rfl)); (case g141_hq => exact fun _ _ _ h => h); (case g141_hy => (refine Or.inl ⟨by rfl, ?_⟩; intro w hSw; (try dsimp only at hSw); go_simp; try with_reducible rfl)); try simp only [Act.put, List.setIfInBounds_toArray, List.set_cons_zero, List.set_cons_succ])); ((refine wpAnyH_take (i := 6) (oi := ?g142_o) (v := ?g142_v) ?g142_hi (by kernel_rfl) (by kernel_rfl) (by kernel_rfl) ?g142_hq ?g142_hy (by assumption) ?g142_gr; (case g142_hi => (simp only [List.getElem?_toArray, List.getElem?_cons_succ, List.getElem?_cons_zero]; rfl)); (case g142_hq => exact fun _ _ _ h => h); (case g142_hy => (refine Or.inl ⟨by rfl, ?_⟩; intro w hSw; (try dsimp only at hSw); go_simp; try with_reducible rfl)); try simp only [Act.put, List.setIfInBounds_toArray, List.set_cons_zero, List.set_cons_succ])); ((refine wpAnyH_take (i := 7) (oi := ?g143_o) (v := ?g143_v) ?g143_hi (by kernel_rfl) (by kernel_rfl) (by kernel_rfl) ?g143_hq ?g143_hy (by assumption) ?g143_gr; (case g143_hi => (simp only [List.getElem?_toArray, List.getElem?_cons_succ, List.getElem?_cons_zero]; rfl)); (case g143_hq => exact fun _ _ _ h => h); (case g143_hy => (refine Or.inl ⟨by rfl, ?_⟩; intro w hSw; (try dsimp only at hSw); go_simp; try with_reducible rfl)); try simp only [Act.put, List.setIfInBounds_toArray, List.set_cons_zero, List.set_cons_succ])); ((refine wpAnyH_take (i := 8) (oi := ?g144_o) (v := ?g144_v) ?g144_hi (by kernel_rfl) (by kernel_rfl) (by kernel_rfl) ?g144_hq ?g144_hy (by assumption) ?g144_gr; (case g144_hi => (simp only [List.getElem?_toArray, List.getElem?_cons_succ, List.getElem?_cons_zero]; rfl)); (case g144_hq => exact fun _ _ _ h => h); (case g144_hy => (refine Or.inl ⟨by rfl, ?_⟩; intro w hSw; (try dsimp only at hSw); go_simp; try with_reducible rfl)); try simp only [Act.put, List.setIfInBounds_toArray, List.set_cons_zero, List.set_cons_succ])))
          (refine wpAnyH_ready (rs := [9]) (by kernel_rfl) (by simp) ?_; refine AllReadyH.cons (o := ?g145_o) ?g145_hi (fun K hK => ?_) AllReadyH.nil; (case g145_hi => (simp only [List.getElem?_toArray, List.getElem?_cons_succ, List.getElem?_cons_zero]; rfl)); go_simp; refine (S4.out _ (by (with_reducible (repeat' (first | exact Ext.refl _ | assumption | refine Ext.drew ?_ | refine Ext.drewN ?_ _ | refine Ext.alloc ?_ _ | refine Ext.setCell ?_ ?_ _ | refine Ext.trans ?_ (by assumption)))); all_goals (first | (simp; done) | (simp; omega)))).mono ?_; rintro e w8 ⟨rfl, hb8⟩; go_wp2_with fail; refine hK.out _ _ (pr_of (by (with_reducible (repeat' (first | exact Ext.refl _ | assumption | refine Ext.drew ?_ | refine Ext.drewN ?_ _ | refine Ext.alloc ?_ _ | refine Ext.setCell ?_ ?_ _ | refine Ext.trans ?_ (by assumption)))); all_goals (first | (simp; done) | (simp; omega)))) (fun hHeld => ?_); clear hK K; try simp only [Act.put, List.setIfInBounds_toArray, List.set_cons_zero, List.set_cons_succ])
          (refine wpAnyH_ready (rs := [10]) (by kernel_rfl) (by simp) ?_; refine AllReadyH.cons (o := ?g146_o) ?g146_hi (fun K hK => ?_) AllReadyH.nil; (case g146_hi => (simp only [List.getElem?_toArray, List.getElem?_cons_succ, List.getElem?_cons_zero]; rfl)); go_simp; refine (S3.out _).mono ?_; rintro e w10 ⟨rfl, hb10⟩; go_wp2_with fail; refine hK.out _ _ (pr_of (by (with_reducible (repeat' (first | exact Ext.refl _ | assumption | refine Ext.drew ?_ | refine Ext.drewN ?_ _ | refine Ext.alloc ?_ _ | refine Ext.setCell ?_ ?_ _ | refine Ext.trans ?_ (by assumption)))); all_goals (first | (simp; done) | (simp; omega)))) (fun hHeld => ?_); clear hK K; try simp only [Act.put, List.setIfInBounds_toArray, List.set_cons_zero, List.set_cons_succ])
          ((refine wpAnyH_take (i := 11) (oi := ?g147_o) (v := ?g147_v) ?g147_hi (by kernel_rfl) (by kernel_rfl) (by kernel_rfl) ?g147_hq ?g147_hy (by assumption) ?g147_gr; (case g147_hi => (simp only [List.getElem?_toArray, List.getElem?_cons_succ, List.getElem?_cons_zero]; rfl)); (case g147_hq => exact fun _ _ _ h => h); (case g147_hy => (refine Or.inl ⟨by rfl, ?_⟩; intro w hSw; (try dsimp only at hSw); go_simp; try with_reducible rfl)); try simp only [Act.put, List.setIfInBounds_toArray, List.set_cons_zero, List.set_cons_succ]))
          refine wpAnyH_done (by kernel_rfl) ?_ _
          have h10 := hHeld.2
          have HX10 := hide (HX7.out.trans h10)
          have c80 := (h10.cell (p := ⟨cb, 0, none⟩) zc7).trans c70
          have c81 := (h10.cell (p := ⟨cb, 1, none⟩) zc7).trans c71
          have zc8 : cb < w10.heap.size := Nat.lt_of_lt_of_le zc7 h10.size
          have zg8 : w.heap.size < w10.heap.size := Nat.lt_of_lt_of_le z70 h10.size
          have C8 := hide (show _ ∧ _ from ⟨c80, c81⟩)
          have RQ8 := hide (RQ5.out.ext HX10.out)
          clear h10 hHeld hb8 hb10 p0 p1 p2 p3 p4 p5 p6 p7 p8 fc7 c70 c71 c80 c81 zc7 zg7 z70 z71 z72 S3 S4
          go_wp2_with fail
          go_loopw [18] (fun i wd => ∃ m : Nat, m ≤ q.length ∧ i = .int .i64 m ∧ Ext w10 wd) (fun i _ => q.length - (intOf i).toNat)
          case atStart => exact ⟨0, by omega, rfl, Ext.refl _⟩
          case round =>
            obtain ⟨m, hm, rfl, hext⟩ := hrel
            have HXd := hide hext
            have hqn := HL.out
            by_cases hmq : m < q.length
            · obtain ⟨u, hqu⟩ : ∃ u, q[m]? = some u := ⟨_, List.getElem?_eq_getElem hmq⟩
              obtain ⟨qb, qo, qc, hqv, hqb, hqc⟩ := reads_cell (RQ8.out.ext hext) (by rw [List.length_map]; omega)
              have hqc' := hqc m (cellV W u) (by rw [List.getElem?_map, hqu]; rfl)
              simp only [cellV] at hqc'
              obtain ⟨d0, d1⟩ := hqc'
              simp only [Value.slice.injEq] at hqv
              obtain ⟨rfl, hlen, rfl⟩ := hqv
              clear hlen
              have e0 := (hext.cell (p := ⟨cb, 0, none⟩) zc8).trans C8.out.1
              have e1 := (hext.cell (p := ⟨cb, 1, none⟩) zc8).trans C8.out.2
              have zcd : cb < wr.heap.size := Nat.lt_of_lt_of_le zc8 hext.size
              have hq1 := fun w => eq_cell (vx W u, vy W u) (vx W k, vy W k) w
              simp only at hq1
              have HU := hide hqu
              clear hqc hqu hext
              have m1 : (m : Int) < (q.length : Int) := by omega
              have m2 : decide ((q.length : Int) ≤ (m : Int)) = false := by simp; omega
              have m3 : decide (q.length ≤ m) = false := by simp; omega
              have zqd : qb < wr.heap.size := hqb
              cases hA : cellB (vx W u, vy W u) (vx W k, vy W k)
              · rw [hA] at hq1
                clear hA
                go_wp2_with fail
                refine wp_region_held_drew (S := (fun W => (∀ b o, b < wr.heap.size → W.cell? ⟨b, o, none⟩ = wr.cell? ⟨b, o, none⟩) ∧ Ext wr W)) (by kernel_rfl) (pr_start _) (fun hHeld => ?_)
                (((refine wpAnyH_take (i := 0) (oi := ?g148_o) (v := ?g148_v) ?g148_hi (by kernel_rfl) (by kernel_rfl) (by kernel_rfl) ?g148_hq ?g148_hy (by assumption) ?g148_gr; (case g148_hi => (simp only [List.getElem?_toArray, List.getElem?_cons_zero]; rfl)); (case g148_hq => exact fun _ _ _ h => h); (case g148_hy => (refine Or.inl ⟨by rfl, ?_⟩; intro w hSw; (try dsimp only at hSw); go_simp; try with_reducible rfl)); try simp only [Act.put, List.setIfInBounds_toArray, List.set_cons_zero, List.set_cons_succ])); ((refine wpAnyH_take (i := 1) (oi := ?g149_o) (v := ?g149_v) ?g149_hi (by kernel_rfl) (by kernel_rfl) (by kernel_rfl) ?g149_hq ?g149_hy (by assumption) ?g149_gr; (case g149_hi => (simp only [List.getElem?_toArray, List.getElem?_cons_succ, List.getElem?_cons_zero]; rfl)); (case g149_hq => exact fun _ _ _ h => h); (case g149_hy => (refine Or.inl ⟨by rfl, ?_⟩; intro w hSw; (try dsimp only at hSw); go_simp; try with_reducible rfl)); try simp only [Act.put, List.setIfInBounds_toArray, List.set_cons_zero, List.set_cons_succ])); ((refine wpAnyH_take (i := 2) (oi := ?g150_o) (v := ?g150_v) ?g150_hi (by kernel_rfl) (by kernel_rfl) (by kernel_rfl) ?g150_hq ?g150_hy (by assumption) ?g150_gr; (case g150_hi => (simp only [List.getElem?_toArray, List.getElem?_cons_succ, List.getElem?_cons_zero]; rfl)); (case g150_hq => exact fun _ _ _ h => h); (case g150_hy => (refine Or.inl ⟨by rfl, ?_⟩; intro w hSw; (try dsimp only at hSw); go_simp; try with_reducible rfl)); try simp only [Act.put, List.setIfInBounds_toArray, List.set_cons_zero, List.set_cons_succ])); ((refine wpAnyH_take (i := 3) (oi := ?g151_o) (v := ?g151_v) ?g151_hi (by kernel_rfl) (by kernel_rfl) (by kernel_rfl) ?g151_hq ?g151_hy (by assumption) ?g151_gr; (case g151_hi => (simp only [List.getElem?_toArray, List.getElem?_cons_succ, List.getElem?_cons_zero]; rfl)); (case g151_hq => exact fun _ _ _ h => h); (case g151_hy => (refine Or.inl ⟨by rfl, ?_⟩; intro w hSw; (try dsimp only at hSw); go_simp; try with_reducible rfl)); try simp only [Act.put, List.setIfInBounds_toArray, List.set_cons_zero, List.set_cons_succ])); ((refine wpAnyH_take (i := 4) (oi := ?g152_o) (v := ?g152_v) ?g152_hi (by kernel_rfl) (by kernel_rfl) (by kernel_rfl) ?g152_hq ?g152_hy (by assumption) ?g152_gr; (case g152_hi => (simp only [List.getElem?_toArray, List.getElem?_cons_succ, List.getElem?_cons_zero]; rfl)); (case g152_hq => exact fun _ _ _ h => h); (case g152_hy => (refine Or.inl ⟨by rfl, ?_⟩; intro w hSw; (try dsimp only at hSw); go_simp; try with_reducible rfl)); try simp only [Act.put, List.setIfInBounds_toArray, List.set_cons_zero, List.set_cons_succ])); ((refine wpAnyH_take (i := 5) (oi := ?g153_o) (v := ?g153_v) ?g153_hi (by kernel_rfl) (by kernel_rfl) (by kernel_rfl) ?g153_hq ?g153_hy (by assumption) ?g153_gr; (case g153_hi => (simp only [List.getElem?_toArray, List.getElem?_cons_succ, List.getElem?_cons_zero]; rfl)); (case g153_hq => exact fun _ _ _ h => h); (case g153_hy => (refine Or.inl ⟨by rfl, ?_⟩; intro w hSw; (try dsimp only at hSw); go_simp; try with_reducible rfl)); try simp only [Act.put, List.setIfInBounds_toArray, List.set_cons_zero, List.set_cons_succ])); ((refine wpAnyH_take (i := 6) (oi := ?g154_o) (v := ?g154_v) ?g154_hi (by kernel_rfl) (by kernel_rfl) (by kernel_rfl) ?g154_hq ?g154_hy (by assumption) ?g154_gr; (case g154_hi => (simp only [List.getElem?_toArray, List.getElem?_cons_succ, List.getElem?_cons_zero]; rfl)); (case g154_hq => exact fun _ _ _ h => h); (case g154_hy => (refine Or.inl ⟨by rfl, ?_⟩; intro w hSw; (try dsimp only at hSw); go_simp; try with_reducible rfl)); try simp only [Act.put, List.setIfInBounds_toArray, List.set_cons_zero, List.set_cons_succ])))
                (((refine wpAnyH_take (i := 7) (oi := ?g155_o) (v := undef) ?g155_hi (by kernel_rfl) (by kernel_rfl) (by kernel_rfl) ?g155_hq ?g155_hy (by assumption) ?g155_gr; (case g155_hi => (simp only [List.getElem?_toArray, List.getElem?_cons_succ, List.getElem?_cons_zero]; rfl)); (case g155_hq => exact fun _ _ _ h => h); (case g155_hy => exact Or.inr ⟨by rfl, rfl⟩); try simp only [Act.put, List.setIfInBounds_toArray, List.set_cons_zero, List.set_cons_succ])); ((refine wpAnyH_take (i := 8) (oi := ?g156_o) (v := undef) ?g156_hi (by kernel_rfl) (by kernel_rfl) (by kernel_rfl) ?g156_hq ?g156_hy (by assumption) ?g156_gr; (case g156_hi => (simp only [List.getElem?_toArray, List.getElem?_cons_succ, List.getElem?_cons_zero]; rfl)); (case g156_hq => exact fun _ _ _ h => h); (case g156_hy => exact Or.inr ⟨by rfl, rfl⟩); try simp only [Act.put, List.setIfInBounds_toArray, List.set_cons_zero, List.set_cons_succ])); ((refine wpAnyH_take (i := 9) (oi := ?g157_o) (v := undef) ?g157_hi (by kernel_rfl) (by kernel_rfl) (by kernel_rfl) ?g157_hq ?g157_hy (by assumption) ?g157_gr; (case g157_hi => (simp only [List.getElem?_toArray, List.getElem?_cons_succ, List.getElem?_cons_zero]; rfl)); (case g157_hq => exact fun _ _ _ h => h); (case g157_hy => exact Or.inr ⟨by rfl, rfl⟩); try simp only [Act.put, List.setIfInBounds_toArray, List.set_cons_zero, List.set_cons_succ])))
                ((refine wpAnyH_take (i := 10) (oi := ?g158_o) (v := ?g158_v) ?g158_hi (by kernel_rfl) (by kernel_rfl) (by kernel_rfl) ?g158_hq ?g158_hy (by assumption) ?g158_gr; (case g158_hi => (simp only [List.getElem?_toArray, List.getElem?_cons_succ, List.getElem?_cons_zero]; rfl)); (case g158_hq => exact fun _ _ _ h => h); (case g158_hy => (refine Or.inl ⟨by rfl, ?_⟩; intro w hSw; (try dsimp only at hSw); go_simp; try with_reducible rfl)); try simp only [Act.put, List.setIfInBounds_toArray, List.set_cons_zero, List.set_cons_succ]))
                refine wpAnyH_done (by kernel_rfl) ?_ _
                go_wp2_with fail
                go_roundw
                case rel => exact ⟨m + 1, by omega, by go_num, HXd.out.trans hHeld.2⟩
                case measure => simp [intOf]; omega
              · rw [hA] at hq1
                have huk : u = k := by
                  rw [cellB_eq] at hA
                  have hp := of_decide_eq_true hA
                  have a1 := idx_v wh.1 u
                  have a2 := idx_v wh.1 k
                  rw [← a1, ← a2, hp]
                subst huk
                obtain ⟨t1, t2, t3⟩ := HWq.out u (List.mem_of_getElem? HU.out)
                rw [SF2.out] at t1
                rw [SF2.out, SF2.out] at t3
                have hon2 := three_on (by rw [HGN.out]; omega) FF.out HF3.out LL.out HL3.out HKI.out t1 t3
                rw [HFK.out, HON.out, HTH.out] at hon2
                have hne : (th != far t) = false := by simp [hon2]
                clear hA t1 t2 t3 hon2
                go_wp2_with fail
                refine wp_region_held_drew (S := (fun W => (∀ b o, b < wr.heap.size → W.cell? ⟨b, o, none⟩ = wr.cell? ⟨b, o, none⟩) ∧ Ext wr W)) (by kernel_rfl) (pr_start _) (fun hHeld => ?_)
                (((refine wpAnyH_take (i := 0) (oi := ?g159_o) (v := ?g159_v) ?g159_hi (by kernel_rfl) (by kernel_rfl) (by kernel_rfl) ?g159_hq ?g159_hy (by assumption) ?g159_gr; (case g159_hi => (simp only [List.getElem?_toArray, List.getElem?_cons_zero]; rfl)); (case g159_hq => exact fun _ _ _ h => h); (case g159_hy => (refine Or.inl ⟨by rfl, ?_⟩; intro w hSw; (try dsimp only at hSw); go_simp; try with_reducible rfl)); try simp only [Act.put, List.setIfInBounds_toArray, List.set_cons_zero, List.set_cons_succ])); ((refine wpAnyH_take (i := 1) (oi := ?g160_o) (v := ?g160_v) ?g160_hi (by kernel_rfl) (by kernel_rfl) (by kernel_rfl) ?g160_hq ?g160_hy (by assumption) ?g160_gr; (case g160_hi => (simp only [List.getElem?_toArray, List.getElem?_cons_succ, List.getElem?_cons_zero]; rfl)); (case g160_hq => exact fun _ _ _ h => h); (case g160_hy => (refine Or.inl ⟨by rfl, ?_⟩; intro w hSw; (try dsimp only at hSw); go_simp; try with_reducible rfl)); try simp only [Act.put, List.setIfInBounds_toArray, List.set_cons_zero, List.set_cons_succ])); ((refine wpAnyH_take (i := 2) (oi := ?g161_o) (v := ?g161_v) ?g161_hi (by kernel_rfl) (by kernel_rfl) (by kernel_rfl) ?g161_hq ?g161_hy (by assumption) ?g161_gr; (case g161_hi => (simp only [List.getElem?_toArray, List.getElem?_cons_succ, List.getElem?_cons_zero]; rfl)); (case g161_hq => exact fun _ _ _ h => h); (case g161_hy => (refine Or.inl ⟨by rfl, ?_⟩; intro w hSw; (try dsimp only at hSw); go_simp; try with_reducible rfl)); try simp only [Act.put, List.setIfInBounds_toArray, List.set_cons_zero, List.set_cons_succ])); ((refine wpAnyH_take (i := 3) (oi := ?g162_o) (v := ?g162_v) ?g162_hi (by kernel_rfl) (by kernel_rfl) (by kernel_rfl) ?g162_hq ?g162_hy (by assumption) ?g162_gr; (case g162_hi => (simp only [List.getElem?_toArray, List.getElem?_cons_succ, List.getElem?_cons_zero]; rfl)); (case g162_hq => exact fun _ _ _ h => h); (case g162_hy => (refine Or.inl ⟨by rfl, ?_⟩; intro w hSw; (try dsimp only at hSw); go_simp; try with_reducible rfl)); try simp only [Act.put, List.setIfInBounds_toArray, List.set_cons_zero, List.set_cons_succ])); ((refine wpAnyH_take (i := 4) (oi := ?g163_o) (v := ?g163_v) ?g163_hi (by kernel_rfl) (by kernel_rfl) (by kernel_rfl) ?g163_hq ?g163_hy (by assumption) ?g163_gr; (case g163_hi => (simp only [List.getElem?_toArray, List.getElem?_cons_succ, List.getElem?_cons_zero]; rfl)); (case g163_hq => exact fun _ _ _ h => h); (case g163_hy => (refine Or.inl ⟨by rfl, ?_⟩; intro w hSw; (try dsimp only at hSw); go_simp; try with_reducible rfl)); try simp only [Act.put, List.setIfInBounds_toArray, List.set_cons_zero, List.set_cons_succ])); ((refine wpAnyH_take (i := 5) (oi := ?g164_o) (v := ?g164_v) ?g164_hi (by kernel_rfl) (by kernel_rfl) (by kernel_rfl) ?g164_hq ?g164_hy (by assumption) ?g164_gr; (case g164_hi => (simp only [List.getElem?_toArray, List.getElem?_cons_succ, List.getElem?_cons_zero]; rfl)); (case g164_hq => exact fun _ _ _ h => h); (case g164_hy => (refine Or.inl ⟨by rfl, ?_⟩; intro w hSw; (try dsimp only at hSw); go_simp; try with_reducible rfl)); try simp only [Act.put, List.setIfInBounds_toArray, List.set_cons_zero, List.set_cons_succ])); ((refine wpAnyH_take (i := 6) (oi := ?g165_o) (v := ?g165_v) ?g165_hi (by kernel_rfl) (by kernel_rfl) (by kernel_rfl) ?g165_hq ?g165_hy (by assumption) ?g165_gr; (case g165_hi => (simp only [List.getElem?_toArray, List.getElem?_cons_succ, List.getElem?_cons_zero]; rfl)); (case g165_hq => exact fun _ _ _ h => h); (case g165_hy => (refine Or.inl ⟨by rfl, ?_⟩; intro w hSw; (try dsimp only at hSw); go_simp; try with_reducible rfl)); try simp only [Act.put, List.setIfInBounds_toArray, List.set_cons_zero, List.set_cons_succ])); ((refine wpAnyH_take (i := 7) (oi := ?g166_o) (v := ?g166_v) ?g166_hi (by kernel_rfl) (by kernel_rfl) (by kernel_rfl) ?g166_hq ?g166_hy (by assumption) ?g166_gr; (case g166_hi => (simp only [List.getElem?_toArray, List.getElem?_cons_succ, List.getElem?_cons_zero]; rfl)); (case g166_hq => exact fun _ _ _ h => h); (case g166_hy => (refine Or.inl ⟨by rfl, ?_⟩; intro w hSw; (try dsimp only at hSw); go_simp; try with_reducible rfl)); try simp only [Act.put, List.setIfInBounds_toArray, List.set_cons_zero, List.set_cons_succ])); ((refine wpAnyH_take (i := 8) (oi := ?g167_o) (v := ?g167_v) ?g167_hi (by kernel_rfl) (by kernel_rfl) (by kernel_rfl) ?g167_hq ?g167_hy (by assumption) ?g167_gr; (case g167_hi => (simp only [List.getElem?_toArray, List.getElem?_cons_succ, List.getElem?_cons_zero]; rfl)); (case g167_hq => exact fun _ _ _ h => h); (case g167_hy => (refine Or.inl ⟨by rfl, ?_⟩; intro w hSw; (try dsimp only at hSw); go_simp; try with_reducible rfl)); try simp only [Act.put, List.setIfInBounds_toArray, List.set_cons_zero, List.set_cons_succ])); ((refine wpAnyH_take (i := 9) (oi := ?g168_o) (v := ?g168_v) ?g168_hi (by kernel_rfl) (by kernel_rfl) (by kernel_rfl) ?g168_hq ?g168_hy (by assumption) ?g168_gr; (case g168_hi => (simp only [List.getElem?_toArray, List.getElem?_cons_succ, List.getElem?_cons_zero]; rfl)); (case g168_hq => exact fun _ _ _ h => h); (case g168_hy => (refine Or.inl ⟨by rfl, ?_⟩; intro w hSw; (try dsimp only at hSw); go_simp; try with_reducible rfl)); try simp only [Act.put, List.setIfInBounds_toArray, List.set_cons_zero, List.set_cons_succ])); ((refine wpAnyH_take (i := 10) (oi := ?g169_o) (v := ?g169_v) ?g169_hi (by kernel_rfl) (by kernel_rfl) (by kernel_rfl) ?g169_hq ?g169_hy (by assumption) ?g169_gr; (case g169_hi => (simp only [List.getElem?_toArray, List.getElem?_cons_succ, List.getElem?_cons_zero]; rfl)); (case g169_hq => exact fun _ _ _ h => h); (case g169_hy => (refine Or.inl ⟨by rfl, ?_⟩; intro w hSw; (try dsimp only at hSw); go_simp; try with_reducible rfl)); try simp only [Act.put, List.setIfInBounds_toArray, List.set_cons_zero, List.set_cons_succ])))
                refine wpAnyH_done (by kernel_rfl) ?_ _
                go_wp2_with fail
                go_roundw
                case rel => exact ⟨m + 1, by omega, by go_num, HXd.out.trans hHeld.2⟩
                case measure => simp [intOf]; omega
            · have hd : decide ((m : Int) < (q.length : Int)) = false := by simp; omega
              go_wp2_with fail
              go_roundw
              case rel => exact ⟨k + 1, by omega, by go_num, HX10.out.trans HXd.out⟩
              case measure => simp [intOf]; omega
      · have hd : decide ((k : Int) < (n : Int)) = false := by simp; omega
        have z0 := hext.size
        rcases HGT.out with ⟨rfl, h⟩ | ⟨rfl, h⟩
        · have hb : (far t == 18446744073709551615) = false := by
            have : infI = 18446744073709551615 := rfl
            simp; omega
          clear h
          go_wp2_with (go_at_call 34; refine (awake08_any _).mono ?_; rintro e w9 ⟨rfl, hb9⟩)
          go_ret
          exact ⟨rfl, (HX5.out.trans HXr.out).trans hb9⟩
        · rw [h, show infI = 18446744073709551615 from rfl]
          clear h
          go_wp2_with (go_at_call 34; refine (awake08_any _).mono ?_; rintro e w9 ⟨rfl, hb9⟩)
          go_ret
          exact ⟨rfl, (HX5.out.trans HXr.out).trans hb9⟩

theorem floodThree_any {w : World} (W H : Int) (a : Option Addr) (l : List Int) (c : Nat) (bx byy bw bh fx fy tx ty : Int) (hr : Row16 w a l) (hu : U16s l) :
    Calls Try.prog 14 #[.agg #[.int .i64 W, .int .i64 H, .slice a l.length c], .agg #[.int .i64 bx, .int .i64 byy, .int .i64 bw, .int .i64 bh], .agg #[.int .i64 fx, .int .i64 fy, .int .i64 tx, .int .i64 ty]] w fun e w' => e = .returned (.bool true) ∧ Ext w w' := by
  by_cases hn : (l.length : Int) ≤ 150
  · by_cases h1 : lookE W H l.length bx byy bw bh fx fy = 0
    · cases h2 : hasB bx byy bw bh tx ty
      · exact ft_out c bx byy bw bh fx fy tx ty hr hu hn h1 h2
      · exact ft_ok c bx byy bw bh fx fy tx ty hr hu hn h1 h2
    · exact ft_bad c bx byy bw bh fx fy tx ty hn h1
  · exact ft_far W H a l.length c bx byy bw bh fx fy tx ty hn
end Go.Proofs.Ytkonojjillcfiaa
