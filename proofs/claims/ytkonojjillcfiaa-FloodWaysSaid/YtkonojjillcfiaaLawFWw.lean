/- The walk of FloodWays. -/
import Derived.Test.YtkonojjillcfiaaLawFW
import Derived.Test.YtkonojjillcfiaaBox
namespace Go.Proofs.Ytkonojjillcfiaa
open Go.RowKit

set_option maxRecDepth 100000 in
theorem fw_far {w : World} (W H : Int) (a : Option Addr) (n c : Nat) (bx byy bw bh fx fy tx ty : Int) (hn : ¬ (n : Int) ≤ 150) :
    Calls Try.prog 13 #[.agg #[.int .i64 W, .int .i64 H, .slice a n c], .agg #[.int .i64 bx, .int .i64 byy, .int .i64 bw, .int .i64 bh], .agg #[.int .i64 fx, .int .i64 fy, .int .i64 tx, .int .i64 ty]] w fun e w' => e = .returned (.bool true) ∧ Ext w w' := by
  have HS := hide (fun w' => small08_any W H a n c w')
  rw [show decide ((n : Int) ≤ 150) = false by simpa using hn] at HS
  clear hn
  go_enter Try.func13, Try.ntmps13
  go_wp2_with (first
    | (go_at_call 33; refine (HS.out _).mono ?_; rintro e w1 ⟨rfl, hb1⟩; obtain ⟨hc1, hf1⟩ := hb1.cells; have hz1 := hb1.size; (repeat (first | rw [World.size_alloc] at hz1 | rw [World.size_drew] at hz1)))
    | (go_at_call 34; refine (awake08_any _).mono ?_; rintro e w2 ⟨rfl, hb2⟩))
  go_ret
  exact ⟨rfl, (by (with_reducible (repeat' (first | exact Ext.refl _ | assumption | refine Ext.drew ?_ | refine Ext.drewN ?_ _ | refine Ext.alloc ?_ _ | refine Ext.setCell ?_ ?_ _ | refine Ext.trans ?_ (by assumption)))); all_goals (first | (simp; done) | (simp; omega)))⟩

set_option maxRecDepth 100000 in
theorem fw_bad {w : World} {W H : Int} {a : Option Addr} {n : Nat} (c : Nat) (bx byy bw bh fx fy tx ty : Int) (hn : (n : Int) ≤ 150) (he : lookE W H n bx byy bw bh fx fy ≠ 0) :
    Calls Try.prog 13 #[.agg #[.int .i64 W, .int .i64 H, .slice a n c], .agg #[.int .i64 bx, .int .i64 byy, .int .i64 bw, .int .i64 bh], .agg #[.int .i64 fx, .int .i64 fy, .int .i64 tx, .int .i64 ty]] w fun e w' => e = .returned (.bool true) ∧ Ext w w' := by
  have HS := hide (fun w' => small08_any W H a n c w')
  rw [show decide ((n : Int) ≤ 150) = true by simpa using hn] at HS
  have H1 := hide (fun (w' : World) => fWithin_bad (w := w') W H a n c bx byy bw bh fx fy he)
  have H2 := hide (fun (w' : World) => fPath_bad (w := w') W H a n c bx byy bw bh fx fy tx ty he)
  generalize lookE W H n bx byy bw bh fx fy = e1 at *
  have hb : (e1 != 0) = true := by simpa using he
  have hee : (e1 == e1) = true := by simp
  clear he hn
  go_enter Try.func13, Try.ntmps13
  go_wp2_with (first
    | (go_at_call 33; refine (HS.out _).mono ?_; rintro e w1 ⟨rfl, hb1⟩; obtain ⟨hc1, hf1⟩ := hb1.cells; have hz1 := hb1.size; (repeat (first | rw [World.size_alloc] at hz1 | rw [World.size_drew] at hz1)); have z1_0 : w.heap.size < w1.heap.size := (by omega); have z1_1 : w.heap.size + 1 < w1.heap.size := (by omega); have z1_2 : w.heap.size + 2 < w1.heap.size := (by omega))
    | (go_at_call 35; refine (H1.out _).mono ?_; rintro e w3 ⟨rfl, hb3⟩; obtain ⟨hc3, hf3⟩ := hb3.cells; have hz3 := hb3.size; (repeat (first | rw [World.size_alloc] at hz3 | rw [World.size_drew] at hz3)); have z3_0 : w.heap.size < w3.heap.size := (by omega); have z3_1 : w.heap.size + 1 < w3.heap.size := (by omega); have z3_2 : w.heap.size + 2 < w3.heap.size := (by omega))
    | (go_at_call 40; refine (H2.out _).mono ?_; rintro e w4 ⟨rfl, hb4⟩; obtain ⟨hc4, hf4⟩ := hb4.cells; have hz4 := hb4.size; (repeat (first | rw [World.size_alloc] at hz4 | rw [World.size_drew] at hz4)); have z4_0 : w.heap.size < w4.heap.size := (by omega); have z4_1 : w.heap.size + 1 < w4.heap.size := (by omega); have z4_2 : w.heap.size + 2 < w4.heap.size := (by omega))
    | (go_at_call 41; refine (HHa.out _ itx ity).mono ?_; rintro e w5 ⟨rfl, hb5⟩)
    | (go_at_call 34; refine (awake08_any _).mono ?_; rintro e w2 ⟨rfl, hb2⟩))
  go_ret
  exact ⟨rfl, (by (with_reducible (repeat' (first | exact Ext.refl _ | assumption | refine Ext.drew ?_ | refine Ext.drewN ?_ _ | refine Ext.alloc ?_ _ | refine Ext.setCell ?_ ?_ _ | refine Ext.trans ?_ (by assumption)))); all_goals (first | (simp; done) | (simp; omega)))⟩

set_option maxRecDepth 100000 in
theorem fw_out {w : World} {W H : Int} {a : Option Addr} {l : List Int} (c : Nat) (bx byy bw bh fx fy tx ty : Int) (hr : Row16 w a l) (hu : U16s l) (hn : (l.length : Int) ≤ 150) (he : lookE W H l.length bx byy bw bh fx fy = 0) (ht : hasB bx byy bw bh tx ty = false) (itx : InI tx) (ity : InI ty) :
    Calls Try.prog 13 #[.agg #[.int .i64 W, .int .i64 H, .slice a l.length c], .agg #[.int .i64 bx, .int .i64 byy, .int .i64 bw, .int .i64 bh], .agg #[.int .i64 fx, .int .i64 fy, .int .i64 tx, .int .i64 ty]] w fun e w' => e = .returned (.bool true) ∧ Ext w w' := by
  have HS := hide (fun w' => small08_any W H a l.length c w')
  rw [show decide ((l.length : Int) ≤ 150) = true by simpa using hn] at HS
  have H1 := hide (fun (w' : World) (hx : Ext w w') => fWithin_some (W := W) (H := H) c bx byy bw bh fx fy (hr.ext hx) hu)
  rw [he] at H1
  have H2 := hide (fun (w' : World) => fPath_out (w := w') W H a l.length c bx byy bw bh fx fy tx ty he ht)
  have lp := landP_of he hu
  obtain ⟨hm, hl, hf, hh⟩ := lookE_ok.1 he
  have HHa := hide (fun (w' : World) (h1 : InI tx) (h2 : InI ty) => rHas_any bx byy bw bh tx ty w' (fitsR_true.1 hf).1 (fitsR_true.1 hf).2.1 h1 h2)
  rw [ht] at HHa
  obtain ⟨n, hnn⟩ : ∃ n, l.length = n := ⟨_, rfl⟩
  rw [hnn] at HS H1 H2 ⊢
  clear he hn hr hu ht hnn hm hl hf hh lp
  go_enter Try.func13, Try.ntmps13
  go_wp2_with (go_at_call 33; refine (HS.out _).mono ?_; rintro e w1 ⟨rfl, hb1⟩; obtain ⟨hc1, hf1⟩ := hb1.cells; have hz1 := hb1.size; (repeat (first | rw [World.size_alloc] at hz1 | rw [World.size_drew] at hz1)); have z1_0 : w.heap.size < w1.heap.size := (by omega); have z1_1 : w.heap.size + 1 < w1.heap.size := (by omega); have z1_2 : w.heap.size + 2 < w1.heap.size := (by omega))
  refine (H1.out _ (by (with_reducible (repeat' (first | exact Ext.refl _ | assumption | refine Ext.drew ?_ | refine Ext.drewN ?_ _ | refine Ext.alloc ?_ _ | refine Ext.setCell ?_ ?_ _ | refine Ext.trans ?_ (by assumption)))); all_goals (first | (simp; done) | (simp; omega)))).mono ?_
  rintro e w3 ⟨v1, rfl, hb3⟩
  obtain ⟨hc3, hf3⟩ := hb3.cells; have hz3 := hb3.size; (repeat (first | rw [World.size_alloc] at hz3 | rw [World.size_drew] at hz3)); have z3_0 : w.heap.size < w3.heap.size := (by omega); have z3_1 : w.heap.size + 1 < w3.heap.size := (by omega); have z3_2 : w.heap.size + 2 < w3.heap.size := (by omega)
  go_wp2_with (first
    | (go_at_call 40; refine (H2.out _).mono ?_; rintro e w4 ⟨rfl, hb4⟩; obtain ⟨hc4, hf4⟩ := hb4.cells; have hz4 := hb4.size; (repeat (first | rw [World.size_alloc] at hz4 | rw [World.size_drew] at hz4)); have z4_0 : w.heap.size < w4.heap.size := (by omega); have z4_1 : w.heap.size + 1 < w4.heap.size := (by omega); have z4_2 : w.heap.size + 2 < w4.heap.size := (by omega))
    | (go_at_call 41; refine (HHa.out _ itx ity).mono ?_; rintro e w5 ⟨rfl, hb5⟩)
    | (go_at_call 34; refine (awake08_any _).mono ?_; rintro e w2 ⟨rfl, hb2⟩))
  go_ret
  exact ⟨rfl, (by (with_reducible (repeat' (first | exact Ext.refl _ | assumption | refine Ext.drew ?_ | refine Ext.drewN ?_ _ | refine Ext.alloc ?_ _ | refine Ext.setCell ?_ ?_ _ | refine Ext.trans ?_ (by assumption)))); all_goals (first | (simp; done) | (simp; omega)))⟩

set_option maxRecDepth 100000 in
set_option maxHeartbeats 1000000 in
theorem fw_ok {w : World} {W H : Int} {a : Option Addr} {l : List Int} (c : Nat) (bx byy bw bh fx fy tx ty : Int) (hr : Row16 w a l) (hu : U16s l) (hn : (l.length : Int) ≤ 150) (he : lookE W H l.length bx byy bw bh fx fy = 0) (ht : hasB bx byy bw bh tx ty = true) :
    Calls Try.prog 13 #[.agg #[.int .i64 W, .int .i64 H, .slice a l.length c], .agg #[.int .i64 bx, .int .i64 byy, .int .i64 bw, .int .i64 bh], .agg #[.int .i64 fx, .int .i64 fy, .int .i64 tx, .int .i64 ty]] w fun e w' => e = .returned (.bool true) ∧ Ext w w' := by
  have HS := hide (fun w' => small08_any W H a l.length c w')
  rw [show decide ((l.length : Int) ≤ 150) = true by simpa using hn] at HS
  have lp := landP_of he hu
  have LP := hide lp
  obtain ⟨G, hG⟩ : ∃ G, mapNet lp = G := ⟨_, rfl⟩
  have HG : Hid (mapNet LP.out = G) := hide hG
  have H1 := hide (fun (w' : World) (hx : Ext w w') => fWithin_ok c he (hr.ext hx) hu)
  have H2 := hide (fun (w' : World) (hx : Ext w w') => fPath_uni c tx ty he (hr.ext hx) hu ht)
  obtain ⟨hm, hl, hf, hh⟩ := lookE_ok.1 he
  have it := lp.in_ ht
  have is_ := lp.in_ hh
  have htn := lp.idx_lt it
  have hsn := lp.idx_lt is_
  have wh := lp.wh
  have n1 : 1 ≤ l.length := by omega
  have op_in : ∀ v, G.op v = true → v < l.length ∧ hasB bx byy bw bh (vx W v) (vy W v) = true := fun v hv => by
    rw [← hG] at hv
    have h' : opV (openB l W bx byy bw bh) W l.length v = true := hv
    unfold opV at h'
    simp only [Bool.and_eq_true, decide_eq_true_eq] at h'
    exact ⟨h'.1, (open_has h'.2).1⟩
  have H4 := hide (fun (w' : World) (g cg base : Nat) (far : Nat → Int) (fa : FarAt w' base g cg far l.length) (v : Nat) (hv : hasB bx byy bw bh (vx W v) (vy W v) = true) => (by have := at08_in lp a c fa (vx W v) (vy W v) hv; rw [idx_v wh.1 v] at this; exact this : Calls Try.prog 46 #[.agg #[.int .i64 W, .int .i64 H, .slice a l.length c], .agg #[.int .i64 bx, .int .i64 byy, .int .i64 bw, .int .i64 bh], .slice (some ⟨g, 0, none⟩) l.length cg, .agg #[.int .i64 (vx W v), .int .i64 (vy W v)]] w' fun e w'' => e = .returned (.int .u64 (far v)) ∧ Ext w' w''))
  have HHa := hide (fun (w' : World) (v : Nat) (hv : hasB bx byy bw bh (vx W v) (vy W v) = true) => (by have := rHas_any bx byy bw bh (vx W v) (vy W v) w' (fitsR_true.1 hf).1 (fitsR_true.1 hf).2.1 (by have := lp.in_ hv; unfold InI; omega) (by have := lp.in_ hv; unfold InI; omega); rw [hv] at this; exact this : Calls Try.prog 41 #[.agg #[.int .i64 bx, .int .i64 byy, .int .i64 bw, .int .i64 bh], .agg #[.int .i64 (vx W v), .int .i64 (vy W v)]] w' fun e w'' => e = .returned (.bool true) ∧ Ext w' w''))
  have HGN := hide (show G.n = l.length by rw [← hG]; rfl)
  have HOP := hide op_in
  have HVI := hide (fun (v : Nat) (hv : v < l.length) => lp.v_in hv)
  have HCO := hide (show ∀ v, G.cost v = l.getD v 0 from fun v => by rw [← hG]; rfl)
  have HCB := hide (fun (v : Nat) (hv : G.op v = true) => And.intro (G.pos v hv) (G.top v hv))
  have HAD := hide (show ∀ u v, u ∈ G.adj v → besB (cellV W u) (cellV W v) 4 = true from fun u v h => bes_adj lp (by rw [hG]; exact h))
  rw [show mapNet (landP_of he hu) = G from hG] at H1 H2
  obtain ⟨s, hs⟩ : ∃ s, idxN W (fx, fy) = s := ⟨_, rfl⟩
  obtain ⟨t, htt⟩ : ∃ t, idxN W (tx, ty) = t := ⟨_, rfl⟩
  obtain rfl : vx W s = fx := by rw [← hs]; exact vx_idx is_.1 is_.2.1 is_.2.2.1
  obtain rfl : vy W s = fy := by rw [← hs]; exact vy_idx is_.1 is_.2.1 is_.2.2.1
  obtain rfl : vx W t = tx := by rw [← htt]; exact vx_idx it.1 it.2.1 it.2.2.1
  obtain rfl : vy W t = ty := by rw [← htt]; exact vy_idx it.1 it.2.1 it.2.2.1
  rw [hs] at H1 H2 hsn
  rw [htt] at H2 htn
  obtain ⟨ab, aoff, rfl, zab0, hcc⟩ := hr (by omega)
  have CC := hide (show ∀ j, j < l.length → (w.cell? ⟨ab, aoff + j, none⟩ = some (.int .u16 (l.getD j 0))) from fun j hj => by rw [hcc j hj, List.getD_eq_getElem?_getD, List.getElem?_eq_getElem hj]; rfl)
  obtain ⟨n, hnn⟩ : ∃ n, l.length = n := ⟨_, rfl⟩
  rw [hnn] at HS H1 H2 H4 HVI HGN HOP n1 htn hsn wh CC ⊢
  have HTB := hide ht
  clear hr hu hn he hm hl hf hG hnn hh ht hs htt is_ it op_in hcc
  clear lp
  go_enter Try.func13, Try.ntmps13
  go_wp2_with (go_at_call 33; refine (HS.out _).mono ?_; rintro e w1 ⟨rfl, hb1⟩; obtain ⟨hc1, hf1⟩ := hb1.cells; have hz1 := hb1.size; (repeat (first | rw [World.size_alloc] at hz1 | rw [World.size_drew] at hz1)); have z1_0 : w.heap.size < w1.heap.size := (by omega); have z1_1 : w.heap.size + 1 < w1.heap.size := (by omega); have z1_2 : w.heap.size + 2 < w1.heap.size := (by omega))
  refine (H1.out _ (by (with_reducible (repeat' (first | exact Ext.refl _ | assumption | refine Ext.drew ?_ | refine Ext.drewN ?_ _ | refine Ext.alloc ?_ _ | refine Ext.setCell ?_ ?_ _ | refine Ext.trans ?_ (by assumption)))); all_goals (first | (simp; done) | (simp; omega)))).mono ?_
  rintro e w2 ⟨v1, far, rfl, hb2, hv1, F1, L1⟩
  obtain ⟨hc2, hf2⟩ := hb2.cells; have hz2 := hb2.size; (repeat (first | rw [World.size_alloc] at hz2 | rw [World.size_drew] at hz2)); have z2_0 : w.heap.size < w2.heap.size := (by omega); have z2_1 : w.heap.size + 1 < w2.heap.size := (by omega); have z2_2 : w.heap.size + 2 < w2.heap.size := (by omega)
  obtain ⟨g, cg, rfl, A1⟩ := far_slice hv1 (by omega)
  have FF := hide F1
  have LL := hide L1
  have AA := hide A1
  clear F1 L1 A1 hv1 H1
  go_wp2_with fail
  refine (H2.out _ (by (with_reducible (repeat' (first | exact Ext.refl _ | assumption | refine Ext.drew ?_ | refine Ext.drewN ?_ _ | refine Ext.alloc ?_ _ | refine Ext.setCell ?_ ?_ _ | refine Ext.trans ?_ (by assumption)))); all_goals (first | (simp; done) | (simp; omega)))).mono ?_
  rintro e w3 ⟨f2, v, q, pc, ge, rfl, hb3, hRq, hql, F2, L2, hge⟩
  obtain ⟨hc3, hf3⟩ := hb3.cells; have hz3 := hb3.size; (repeat (first | rw [World.size_alloc] at hz3 | rw [World.size_drew] at hz3)); have z3_0 : w.heap.size < w3.heap.size := (by omega); have z3_1 : w.heap.size + 1 < w3.heap.size := (by omega); have z3_2 : w.heap.size + 2 < w3.heap.size := (by omega)
  have SF2 := hide (funext fun u => F2.same FF.out u)
  rw [SF2.out] at hge
  have h13 : Ext w1 w3 := (by (with_reducible (repeat' (first | exact Ext.refl _ | assumption | refine Ext.drew ?_ | refine Ext.drewN ?_ _ | refine Ext.alloc ?_ _ | refine Ext.setCell ?_ ?_ _ | refine Ext.trans ?_ (by assumption)))); all_goals (first | (simp; done) | (simp; omega)))
  have B0 : Hid (Blk w3 (w.heap.size) 26 #[.int .i64 W, .int .i64 H, .slice (some ⟨ab, aoff, none⟩) n c]) := hide (by refine Blk.ext ?_ (hb1.trans h13); (repeat' (first | exact Blk.new_ (by simp) | refine Blk.drew ?_ | refine Blk.over ?_)))
  have B1 : Hid (Blk w3 (w.heap.size + 1) 75 #[.int .i64 bx, .int .i64 byy, .int .i64 bw, .int .i64 bh]) := hide (by refine Blk.ext ?_ (hb1.trans h13); (repeat' (first | exact Blk.new_ (by simp) | refine Blk.drew ?_ | refine Blk.over ?_)))
  have B2 : Hid (Blk w3 (w.heap.size + 2) 85 #[.int .i64 (vx W s), .int .i64 (vy W s), .int .i64 (vx W t), .int .i64 (vy W t)]) := hide (by refine Blk.ext ?_ (hb1.trans h13); (repeat' (first | exact Blk.new_ (by simp) | refine Blk.drew ?_ | refine Blk.over ?_)))
  have hx3 : Ext w w3 := (by (with_reducible (repeat' (first | exact Ext.refl _ | assumption | refine Ext.drew ?_ | refine Ext.drewN ?_ _ | refine Ext.alloc ?_ _ | refine Ext.setCell ?_ ?_ _ | refine Ext.trans ?_ (by assumption)))); all_goals (first | (simp; done) | (simp; omega)))
  have HX3 := hide hx3
  have A3 := hide (AA.out.ext hb3)
  have RQ := hide hRq
  have HL := hide hql
  clear hc1 hc2 hc3 hf1 hf2 hf3 hb1 hb2 hb3 hz1 hz2 hz3 z1_0 z1_1 z1_2 z2_0 z2_1 z2_2 z3_0 z3_1 z3_2 HS H2 hx3 hql F2 L2 AA SF2
  rcases hge with ⟨rfl, hti, rfl, hB⟩ | ⟨rfl, hti, rfl, rfl⟩
  · have hW := back_way FF.out hB hti
    rw [List.reverse_reverse] at hW
    have HW := hide hW
    have H4o := hide H4.out
    have hq0 : 0 < q.length := (List.getElem?_eq_some_iff.1 hW.first).1
    obtain ⟨pb, po, pcap, hv, hpb, hpc⟩ := reads_cell hRq (by rw [List.length_map]; exact hq0)
    rw [List.length_map] at hv
    subst hv
    have c0 := hpc 0 (cellV W s) (by rw [List.getElem?_map, hW.first]; rfl)
    have c1 := hpc (q.length - 1) (cellV W t) (by rw [List.getElem?_map, hW.last]; rfl)
    simp only [cellV, Nat.zero_mul, Nat.add_zero] at c0 c1
    obtain ⟨c00, c01⟩ := c0
    obtain ⟨c10, c11⟩ := c1
    have HPC := hide hpc
    obtain ⟨ft, hft⟩ : ∃ z, far t = z := ⟨_, rfl⟩
    have HFT := hide hft
    rw [hft] at hti ⊢
    have hfb : (ft == 18446744073709551615) = false := by
      have : infI = 18446744073709551615 := rfl
      simp; omega
    have hne : (ft != ft) = false := by simp
    have e1 : ∀ w, (Op.equalIn 10000 49 (.agg #[.int .i64 (vx W s), .int .i64 (vy W s)]) (.agg #[.int .i64 (vx W s), .int .i64 (vy W s)])).run Try.prog w = .ok true w := fun w => by rw [eq_cell (vx W s, vy W s) (vx W s, vy W s) w]; simp [cellB]
    have e2 : ∀ w, (Op.equalIn 10000 49 (.agg #[.int .i64 (vx W t), .int .i64 (vy W t)]) (.agg #[.int .i64 (vx W t), .int .i64 (vy W t)])).run Try.prog w = .ok true w := fun w => by rw [eq_cell (vx W t, vy W t) (vx W t, vy W t) w]; simp [cellB]
    have H4t := hide (fun w' (hx : Ext w3 w') => (by have := H4.out w' g cg _ far (A3.out.ext hx) t HTB.out; rw [HFT.out] at this; exact this : Calls Try.prog 46 #[.agg #[.int .i64 W, .int .i64 H, .slice (some ⟨ab, aoff, none⟩) n c], .agg #[.int .i64 bx, .int .i64 byy, .int .i64 bw, .int .i64 bh], .slice (some ⟨g, 0, none⟩) n cg, .agg #[.int .i64 (vx W t), .int .i64 (vy W t)]] w' fun e w'' => e = .returned (.int .u64 ft) ∧ Ext w' w''))
    have q0 := B0.out.at 0 rfl; have q1 := B0.out.at 1 rfl; have q2 := B0.out.at 2 rfl; have qz := B0.out.lt
    have r0 := B1.out.at 0 rfl; have r1 := B1.out.at 1 rfl; have r2 := B1.out.at 2 rfl; have r3 := B1.out.at 3 rfl; have rz := B1.out.lt
    have u0 := B2.out.at 0 rfl; have u1 := B2.out.at 1 rfl; have u2 := B2.out.at 2 rfl; have u3 := B2.out.at 3 rfl; have uz := B2.out.lt
    have m1 : (1 : Int) ≤ (q.length : Int) := by omega
    have m2 : (q.length : Int) - 1 < (q.length : Int) := by omega
    have m3 : decide ((q.length : Int) < 1) = false := by simp; omega
    have m4 : IntKind.i64.wrap ((q.length : Int) - 1) = (q.length : Int) - 1 := IntWalk.i64_in _ (by have := HL.out; omega)
    have m5 : ((q.length : Int) - 1).toNat = q.length - 1 := by omega
    clear hW hft hpc hB hRq
    go_wp2_with fail
    refine wp_region_held_drew (S := (fun W => (∀ b o, b < w3.heap.size → W.cell? ⟨b, o, none⟩ = w3.cell? ⟨b, o, none⟩) ∧ Ext w3 W)) (by kernel_rfl) (by first | with_reducible exact pr_start _ | exact pr_of (by (with_reducible (repeat' (first | exact Ext.refl _ | assumption | refine Ext.drew ?_ | refine Ext.drewN ?_ _ | refine Ext.alloc ?_ _ | refine Ext.setCell ?_ ?_ _ | refine Ext.trans ?_ (by assumption)))); all_goals (first | (simp; done) | (simp; omega)))) (fun hHeld => ?_)
    ((refine wpAnyH_take (i := 0) (oi := ?g123_o) (v := ?g123_v) ?g123_hi (by kernel_rfl) (by kernel_rfl) (by kernel_rfl) ?g123_hq ?g123_hy (by assumption) ?g123_gr; (case g123_hi => (simp only [List.getElem?_toArray, List.getElem?_cons_zero]; rfl)); (case g123_hq => exact fun _ _ _ h => h); (case g123_hy => (refine Or.inl ⟨by rfl, ?_⟩; intro w hSw; (try dsimp only at hSw); go_simp; try with_reducible rfl)); try simp only [Act.put, List.setIfInBounds_toArray, List.set_cons_zero, List.set_cons_succ]))
    ((refine wpAnyH_take (i := 1) (oi := ?g124_o) (v := ?g124_v) ?g124_hi (by kernel_rfl) (by kernel_rfl) (by kernel_rfl) ?g124_hq ?g124_hy (by assumption) ?g124_gr; (case g124_hi => (simp only [List.getElem?_toArray, List.getElem?_cons_succ, List.getElem?_cons_zero]; rfl)); (case g124_hq => exact fun _ _ _ h => h); (case g124_hy => (refine Or.inl ⟨by rfl, ?_⟩; intro w hSw; (try dsimp only at hSw); go_simp; try with_reducible rfl)); try simp only [Act.put, List.setIfInBounds_toArray, List.set_cons_zero, List.set_cons_succ]))
    ((refine wpAnyH_take (i := 2) (oi := ?g125_o) (v := ?g125_v) ?g125_hi (by kernel_rfl) (by kernel_rfl) (by kernel_rfl) ?g125_hq ?g125_hy (by assumption) ?g125_gr; (case g125_hi => (simp only [List.getElem?_toArray, List.getElem?_cons_succ, List.getElem?_cons_zero]; rfl)); (case g125_hq => exact fun _ _ _ h => h); (case g125_hy => (refine Or.inl ⟨by rfl, ?_⟩; intro w hSw; (try dsimp only at hSw); go_simp; try with_reducible rfl)); try simp only [Act.put, List.setIfInBounds_toArray, List.set_cons_zero, List.set_cons_succ]))
    ((refine wpAnyH_take (i := 3) (oi := ?g126_o) (v := ?g126_v) ?g126_hi (by kernel_rfl) (by kernel_rfl) (by kernel_rfl) ?g126_hq ?g126_hy (by assumption) ?g126_gr; (case g126_hi => (simp only [List.getElem?_toArray, List.getElem?_cons_succ, List.getElem?_cons_zero]; rfl)); (case g126_hq => exact fun _ _ _ h => h); (case g126_hy => (refine Or.inl ⟨by rfl, ?_⟩; intro w hSw; (try dsimp only at hSw); go_simp; try with_reducible rfl)); try simp only [Act.put, List.setIfInBounds_toArray, List.set_cons_zero, List.set_cons_succ]))
    ((refine wpAnyH_take (i := 4) (oi := ?g127_o) (v := ?g127_v) ?g127_hi (by kernel_rfl) (by kernel_rfl) (by kernel_rfl) ?g127_hq ?g127_hy (by assumption) ?g127_gr; (case g127_hi => (simp only [List.getElem?_toArray, List.getElem?_cons_succ, List.getElem?_cons_zero]; rfl)); (case g127_hq => exact fun _ _ _ h => h); (case g127_hy => (refine Or.inl ⟨by rfl, ?_⟩; intro w hSw; (try dsimp only at hSw); go_simp; try with_reducible rfl)); try simp only [Act.put, List.setIfInBounds_toArray, List.set_cons_zero, List.set_cons_succ]))
    ((refine wpAnyH_take (i := 5) (oi := ?g128_o) (v := ?g128_v) ?g128_hi (by kernel_rfl) (by kernel_rfl) (by kernel_rfl) ?g128_hq ?g128_hy (by assumption) ?g128_gr; (case g128_hi => (simp only [List.getElem?_toArray, List.getElem?_cons_succ, List.getElem?_cons_zero]; rfl)); (case g128_hq => exact fun _ _ _ h => h); (case g128_hy => (refine Or.inl ⟨by rfl, ?_⟩; intro w hSw; (try dsimp only at hSw); go_simp; try with_reducible rfl)); try simp only [Act.put, List.setIfInBounds_toArray, List.set_cons_zero, List.set_cons_succ]))
    ((refine wpAnyH_take (i := 6) (oi := ?g129_o) (v := ?g129_v) ?g129_hi (by kernel_rfl) (by kernel_rfl) (by kernel_rfl) ?g129_hq ?g129_hy (by assumption) ?g129_gr; (case g129_hi => (simp only [List.getElem?_toArray, List.getElem?_cons_succ, List.getElem?_cons_zero]; rfl)); (case g129_hq => exact fun _ _ _ h => h); (case g129_hy => (refine Or.inl ⟨by rfl, ?_⟩; intro w hSw; (try dsimp only at hSw); go_simp; try with_reducible rfl)); try simp only [Act.put, List.setIfInBounds_toArray, List.set_cons_zero, List.set_cons_succ]))
    ((refine wpAnyH_take (i := 7) (oi := ?g130_o) (v := ?g130_v) ?g130_hi (by kernel_rfl) (by kernel_rfl) (by kernel_rfl) ?g130_hq ?g130_hy (by assumption) ?g130_gr; (case g130_hi => (simp only [List.getElem?_toArray, List.getElem?_cons_succ, List.getElem?_cons_zero]; rfl)); (case g130_hq => exact fun _ _ _ h => h); (case g130_hy => (refine Or.inl ⟨by rfl, ?_⟩; intro w hSw; (try dsimp only at hSw); go_simp; try with_reducible rfl)); try simp only [Act.put, List.setIfInBounds_toArray, List.set_cons_zero, List.set_cons_succ]))
    ((refine wpAnyH_take (i := 8) (oi := ?g131_o) (v := ?g131_v) ?g131_hi (by kernel_rfl) (by kernel_rfl) (by kernel_rfl) ?g131_hq ?g131_hy (by assumption) ?g131_gr; (case g131_hi => (simp only [List.getElem?_toArray, List.getElem?_cons_succ, List.getElem?_cons_zero]; rfl)); (case g131_hq => exact fun _ _ _ h => h); (case g131_hy => (refine Or.inl ⟨by rfl, ?_⟩; intro w hSw; (try dsimp only at hSw); go_simp; try with_reducible rfl)); try simp only [Act.put, List.setIfInBounds_toArray, List.set_cons_zero, List.set_cons_succ]))
    ((refine wpAnyH_take (i := 9) (oi := ?g132_o) (v := ?g132_v) ?g132_hi (by kernel_rfl) (by kernel_rfl) (by kernel_rfl) ?g132_hq ?g132_hy (by assumption) ?g132_gr; (case g132_hi => (simp only [List.getElem?_toArray, List.getElem?_cons_succ, List.getElem?_cons_zero]; rfl)); (case g132_hq => exact fun _ _ _ h => h); (case g132_hy => (refine Or.inl ⟨by rfl, ?_⟩; intro w hSw; (try dsimp only at hSw); go_simp; try with_reducible rfl)); try simp only [Act.put, List.setIfInBounds_toArray, List.set_cons_zero, List.set_cons_succ]))
    ((refine wpAnyH_take (i := 10) (oi := ?g133_o) (v := ?g133_v) ?g133_hi (by kernel_rfl) (by kernel_rfl) (by kernel_rfl) ?g133_hq ?g133_hy (by assumption) ?g133_gr; (case g133_hi => (simp only [List.getElem?_toArray, List.getElem?_cons_succ, List.getElem?_cons_zero]; rfl)); (case g133_hq => exact fun _ _ _ h => h); (case g133_hy => (refine Or.inl ⟨by rfl, ?_⟩; intro w hSw; (try dsimp only at hSw); go_simp; try with_reducible rfl)); try simp only [Act.put, List.setIfInBounds_toArray, List.set_cons_zero, List.set_cons_succ]))
    ((refine wpAnyH_take (i := 11) (oi := ?g134_o) (v := ?g134_v) ?g134_hi (by kernel_rfl) (by kernel_rfl) (by kernel_rfl) ?g134_hq ?g134_hy (by assumption) ?g134_gr; (case g134_hi => (simp only [List.getElem?_toArray, List.getElem?_cons_succ, List.getElem?_cons_zero]; rfl)); (case g134_hq => exact fun _ _ _ h => h); (case g134_hy => (refine Or.inl ⟨by rfl, ?_⟩; intro w hSw; (try dsimp only at hSw); go_simp; try with_reducible rfl)); try simp only [Act.put, List.setIfInBounds_toArray, List.set_cons_zero, List.set_cons_succ]))
    ((refine wpAnyH_take (i := 12) (oi := ?g135_o) (v := ?g135_v) ?g135_hi (by kernel_rfl) (by kernel_rfl) (by kernel_rfl) ?g135_hq ?g135_hy (by assumption) ?g135_gr; (case g135_hi => (simp only [List.getElem?_toArray, List.getElem?_cons_succ, List.getElem?_cons_zero]; rfl)); (case g135_hq => exact fun _ _ _ h => h); (case g135_hy => (refine Or.inl ⟨by rfl, ?_⟩; intro w hSw; (try dsimp only at hSw); go_simp; try with_reducible rfl)); try simp only [Act.put, List.setIfInBounds_toArray, List.set_cons_zero, List.set_cons_succ]))
    ((refine wpAnyH_take (i := 13) (oi := ?g136_o) (v := ?g136_v) ?g136_hi (by kernel_rfl) (by kernel_rfl) (by kernel_rfl) ?g136_hq ?g136_hy (by assumption) ?g136_gr; (case g136_hi => (simp only [List.getElem?_toArray, List.getElem?_cons_succ, List.getElem?_cons_zero]; rfl)); (case g136_hq => exact fun _ _ _ h => h); (case g136_hy => (refine Or.inl ⟨by rfl, ?_⟩; intro w hSw; (try dsimp only at hSw); go_simp; try with_reducible rfl)); try simp only [Act.put, List.setIfInBounds_toArray, List.set_cons_zero, List.set_cons_succ]))
    ((refine wpAnyH_take (i := 14) (oi := ?g137_o) (v := ?g137_v) ?g137_hi (by kernel_rfl) (by kernel_rfl) (by kernel_rfl) ?g137_hq ?g137_hy (by assumption) ?g137_gr; (case g137_hi => (simp only [List.getElem?_toArray, List.getElem?_cons_succ, List.getElem?_cons_zero]; rfl)); (case g137_hq => exact fun _ _ _ h => h); (case g137_hy => (refine Or.inl ⟨by rfl, ?_⟩; intro w hSw; (try dsimp only at hSw); go_simp; try with_reducible rfl)); try simp only [Act.put, List.setIfInBounds_toArray, List.set_cons_zero, List.set_cons_succ]))
    ((refine wpAnyH_take (i := 15) (oi := ?g138_o) (v := ?g138_v) ?g138_hi (by kernel_rfl) (by kernel_rfl) (by kernel_rfl) ?g138_hq ?g138_hy (by assumption) ?g138_gr; (case g138_hi => (simp only [List.getElem?_toArray, List.getElem?_cons_succ, List.getElem?_cons_zero]; rfl)); (case g138_hq => exact fun _ _ _ h => h); (case g138_hy => (refine Or.inl ⟨by rfl, ?_⟩; intro w hSw; (try dsimp only at hSw); go_simp; try with_reducible rfl)); try simp only [Act.put, List.setIfInBounds_toArray, List.set_cons_zero, List.set_cons_succ]))
    ((refine wpAnyH_take (i := 16) (oi := ?g139_o) (v := ?g139_v) ?g139_hi (by kernel_rfl) (by kernel_rfl) (by kernel_rfl) ?g139_hq ?g139_hy (by assumption) ?g139_gr; (case g139_hi => (simp only [List.getElem?_toArray, List.getElem?_cons_succ, List.getElem?_cons_zero]; rfl)); (case g139_hq => exact fun _ _ _ h => h); (case g139_hy => (refine Or.inl ⟨by rfl, ?_⟩; intro w hSw; (try dsimp only at hSw); go_simp; try with_reducible rfl)); try simp only [Act.put, List.setIfInBounds_toArray, List.set_cons_zero, List.set_cons_succ]))
    ((refine wpAnyH_take (i := 17) (oi := ?g140_o) (v := ?g140_v) ?g140_hi (by kernel_rfl) (by kernel_rfl) (by kernel_rfl) ?g140_hq ?g140_hy (by assumption) ?g140_gr; (case g140_hi => (simp only [List.getElem?_toArray, List.getElem?_cons_succ, List.getElem?_cons_zero]; rfl)); (case g140_hq => exact fun _ _ _ h => h); (case g140_hy => (refine Or.inl ⟨by rfl, ?_⟩; intro w hSw; (try dsimp only at hSw); go_simp; try with_reducible rfl)); try simp only [Act.put, List.setIfInBounds_toArray, List.set_cons_zero, List.set_cons_succ]))
    ((refine wpAnyH_take (i := 18) (oi := ?g141_o) (v := ?g141_v) ?g141_hi (by kernel_rfl) (by kernel_rfl) (by kernel_rfl) ?g141_hq ?g141_hy (by assumption) ?g141_gr; (case g141_hi => (simp only [List.getElem?_toArray, List.getElem?_cons_succ, List.getElem?_cons_zero]; rfl)); (case g141_hq => exact fun _ _ _ h => h); (case g141_hy => (refine Or.inl ⟨by rfl, ?_⟩; intro w hSw; (try dsimp only at hSw); go_simp; try with_reducible rfl)); try simp only [Act.put, List.setIfInBounds_toArray, List.set_cons_zero, List.set_cons_succ]))
    ((refine wpAnyH_take (i := 19) (oi := ?g142_o) (v := ?g142_v) ?g142_hi (by kernel_rfl) (by kernel_rfl) (by kernel_rfl) ?g142_hq ?g142_hy (by assumption) ?g142_gr; (case g142_hi => (simp only [List.getElem?_toArray, List.getElem?_cons_succ, List.getElem?_cons_zero]; rfl)); (case g142_hq => exact fun _ _ _ h => h); (case g142_hy => (refine Or.inl ⟨by rfl, ?_⟩; intro w hSw; (try dsimp only at hSw); go_simp; try with_reducible rfl)); try simp only [Act.put, List.setIfInBounds_toArray, List.set_cons_zero, List.set_cons_succ]))
    ((refine wpAnyH_take (i := 20) (oi := ?g143_o) (v := ?g143_v) ?g143_hi (by kernel_rfl) (by kernel_rfl) (by kernel_rfl) ?g143_hq ?g143_hy (by assumption) ?g143_gr; (case g143_hi => (simp only [List.getElem?_toArray, List.getElem?_cons_succ, List.getElem?_cons_zero]; rfl)); (case g143_hq => exact fun _ _ _ h => h); (case g143_hy => (refine Or.inl ⟨by rfl, ?_⟩; intro w hSw; (try dsimp only at hSw); go_simp; try with_reducible rfl)); try simp only [Act.put, List.setIfInBounds_toArray, List.set_cons_zero, List.set_cons_succ]))
    ((refine wpAnyH_take (i := 21) (oi := ?g144_o) (v := ?g144_v) ?g144_hi (by kernel_rfl) (by kernel_rfl) (by kernel_rfl) ?g144_hq ?g144_hy (by assumption) ?g144_gr; (case g144_hi => (simp only [List.getElem?_toArray, List.getElem?_cons_succ, List.getElem?_cons_zero]; rfl)); (case g144_hq => exact fun _ _ _ h => h); (case g144_hy => (refine Or.inl ⟨by rfl, ?_⟩; intro w hSw; (try dsimp only at hSw); go_simp; try with_reducible rfl)); try simp only [Act.put, List.setIfInBounds_toArray, List.set_cons_zero, List.set_cons_succ]))
    ((refine wpAnyH_take (i := 22) (oi := ?g145_o) (v := ?g145_v) ?g145_hi (by kernel_rfl) (by kernel_rfl) (by kernel_rfl) ?g145_hq ?g145_hy (by assumption) ?g145_gr; (case g145_hi => (simp only [List.getElem?_toArray, List.getElem?_cons_succ, List.getElem?_cons_zero]; rfl)); (case g145_hq => exact fun _ _ _ h => h); (case g145_hy => (refine Or.inl ⟨by rfl, ?_⟩; intro w hSw; (try dsimp only at hSw); go_simp; try with_reducible rfl)); try simp only [Act.put, List.setIfInBounds_toArray, List.set_cons_zero, List.set_cons_succ]))
    ((refine wpAnyH_take (i := 23) (oi := ?g146_o) (v := ?g146_v) ?g146_hi (by kernel_rfl) (by kernel_rfl) (by kernel_rfl) ?g146_hq ?g146_hy (by assumption) ?g146_gr; (case g146_hi => (simp only [List.getElem?_toArray, List.getElem?_cons_succ, List.getElem?_cons_zero]; rfl)); (case g146_hq => exact fun _ _ _ h => h); (case g146_hy => (refine Or.inl ⟨by rfl, ?_⟩; intro w hSw; (try dsimp only at hSw); go_simp; try with_reducible rfl)); try simp only [Act.put, List.setIfInBounds_toArray, List.set_cons_zero, List.set_cons_succ]))
    ((refine wpAnyH_take (i := 24) (oi := ?g147_o) (v := ?g147_v) ?g147_hi (by kernel_rfl) (by kernel_rfl) (by kernel_rfl) ?g147_hq ?g147_hy (by assumption) ?g147_gr; (case g147_hi => (simp only [List.getElem?_toArray, List.getElem?_cons_succ, List.getElem?_cons_zero]; rfl)); (case g147_hq => exact fun _ _ _ h => h); (case g147_hy => (refine Or.inl ⟨by rfl, ?_⟩; intro w hSw; (try dsimp only at hSw); go_simp; try with_reducible rfl)); try simp only [Act.put, List.setIfInBounds_toArray, List.set_cons_zero, List.set_cons_succ]))
    ((refine wpAnyH_take (i := 25) (oi := ?g148_o) (v := ?g148_v) ?g148_hi (by kernel_rfl) (by kernel_rfl) (by kernel_rfl) ?g148_hq ?g148_hy (by assumption) ?g148_gr; (case g148_hi => (simp only [List.getElem?_toArray, List.getElem?_cons_succ, List.getElem?_cons_zero]; rfl)); (case g148_hq => exact fun _ _ _ h => h); (case g148_hy => (refine Or.inl ⟨by rfl, ?_⟩; intro w hSw; (try dsimp only at hSw); go_simp; try with_reducible rfl)); try simp only [Act.put, List.setIfInBounds_toArray, List.set_cons_zero, List.set_cons_succ]))
    ((refine wpAnyH_take (i := 26) (oi := ?g149_o) (v := ?g149_v) ?g149_hi (by kernel_rfl) (by kernel_rfl) (by kernel_rfl) ?g149_hq ?g149_hy (by assumption) ?g149_gr; (case g149_hi => (simp only [List.getElem?_toArray, List.getElem?_cons_succ, List.getElem?_cons_zero]; rfl)); (case g149_hq => exact fun _ _ _ h => h); (case g149_hy => (refine Or.inl ⟨by rfl, ?_⟩; intro w hSw; (try dsimp only at hSw); go_simp; try with_reducible rfl)); try simp only [Act.put, List.setIfInBounds_toArray, List.set_cons_zero, List.set_cons_succ]))
    ((refine wpAnyH_take (i := 27) (oi := ?g150_o) (v := ?g150_v) ?g150_hi (by kernel_rfl) (by kernel_rfl) (by kernel_rfl) ?g150_hq ?g150_hy (by assumption) ?g150_gr; (case g150_hi => (simp only [List.getElem?_toArray, List.getElem?_cons_succ, List.getElem?_cons_zero]; rfl)); (case g150_hq => exact fun _ _ _ h => h); (case g150_hy => (refine Or.inl ⟨by rfl, ?_⟩; intro w hSw; (try dsimp only at hSw); go_simp; try with_reducible rfl)); try simp only [Act.put, List.setIfInBounds_toArray, List.set_cons_zero, List.set_cons_succ]))
    ((refine wpAnyH_take (i := 28) (oi := ?g151_o) (v := ?g151_v) ?g151_hi (by kernel_rfl) (by kernel_rfl) (by kernel_rfl) ?g151_hq ?g151_hy (by assumption) ?g151_gr; (case g151_hi => (simp only [List.getElem?_toArray, List.getElem?_cons_succ, List.getElem?_cons_zero]; rfl)); (case g151_hq => exact fun _ _ _ h => h); (case g151_hy => (refine Or.inl ⟨by rfl, ?_⟩; intro w hSw; (try dsimp only at hSw); go_simp; try with_reducible rfl)); try simp only [Act.put, List.setIfInBounds_toArray, List.set_cons_zero, List.set_cons_succ]))
    (refine wpAnyH_ready (rs := [29]) (by kernel_rfl) (by simp) ?_; refine AllReadyH.cons (o := ?g152_o) ?g152_hi (fun K hK => ?_) AllReadyH.nil; (case g152_hi => (simp only [List.getElem?_toArray, List.getElem?_cons_succ, List.getElem?_cons_zero]; rfl)); go_simp; refine (H4t.out _ (by (with_reducible (repeat' (first | exact Ext.refl _ | assumption | refine Ext.drew ?_ | refine Ext.drewN ?_ _ | refine Ext.alloc ?_ _ | refine Ext.setCell ?_ ?_ _ | refine Ext.trans ?_ (by assumption)))); all_goals (first | (simp; done) | (simp; omega)))).mono ?_; rintro e w5 ⟨rfl, hb5⟩; go_wp2_with fail; refine hK.out _ _ (pr_of (by (with_reducible (repeat' (first | exact Ext.refl _ | assumption | refine Ext.drew ?_ | refine Ext.drewN ?_ _ | refine Ext.alloc ?_ _ | refine Ext.setCell ?_ ?_ _ | refine Ext.trans ?_ (by assumption)))); all_goals (first | (simp; done) | (simp; omega)))) (fun hHeld => ?_); clear hK K; try simp only [Act.put, List.setIfInBounds_toArray, List.set_cons_zero, List.set_cons_succ])
    ((refine wpAnyH_take (i := 30) (oi := ?g153_o) (v := ?g153_v) ?g153_hi (by kernel_rfl) (by kernel_rfl) (by kernel_rfl) ?g153_hq ?g153_hy (by assumption) ?g153_gr; (case g153_hi => (simp only [List.getElem?_toArray, List.getElem?_cons_succ, List.getElem?_cons_zero]; rfl)); (case g153_hq => exact fun _ _ _ h => h); (case g153_hy => (refine Or.inl ⟨by rfl, ?_⟩; intro w hSw; (try dsimp only at hSw); go_simp; try with_reducible rfl)); try simp only [Act.put, List.setIfInBounds_toArray, List.set_cons_zero, List.set_cons_succ]))
    ((refine wpAnyH_take (i := 31) (oi := ?g154_o) (v := ?g154_v) ?g154_hi (by kernel_rfl) (by kernel_rfl) (by kernel_rfl) ?g154_hq ?g154_hy (by assumption) ?g154_gr; (case g154_hi => (simp only [List.getElem?_toArray, List.getElem?_cons_succ, List.getElem?_cons_zero]; rfl)); (case g154_hq => exact fun _ _ _ h => h); (case g154_hy => (refine Or.inl ⟨by rfl, ?_⟩; intro w hSw; (try dsimp only at hSw); go_simp; try with_reducible rfl)); try simp only [Act.put, List.setIfInBounds_toArray, List.set_cons_zero, List.set_cons_succ]))
    ((refine wpAnyH_take (i := 32) (oi := ?g155_o) (v := ?g155_v) ?g155_hi (by kernel_rfl) (by kernel_rfl) (by kernel_rfl) ?g155_hq ?g155_hy (by assumption) ?g155_gr; (case g155_hi => (simp only [List.getElem?_toArray, List.getElem?_cons_succ, List.getElem?_cons_zero]; rfl)); (case g155_hq => exact fun _ _ _ h => h); (case g155_hy => (refine Or.inl ⟨by rfl, ?_⟩; intro w hSw; (try dsimp only at hSw); go_simp; try with_reducible rfl)); try simp only [Act.put, List.setIfInBounds_toArray, List.set_cons_zero, List.set_cons_succ]))
    ((refine wpAnyH_take (i := 33) (oi := ?g156_o) (v := ?g156_v) ?g156_hi (by kernel_rfl) (by kernel_rfl) (by kernel_rfl) ?g156_hq ?g156_hy (by assumption) ?g156_gr; (case g156_hi => (simp only [List.getElem?_toArray, List.getElem?_cons_succ, List.getElem?_cons_zero]; rfl)); (case g156_hq => exact fun _ _ _ h => h); (case g156_hy => (refine Or.inl ⟨by rfl, ?_⟩; intro w hSw; (try dsimp only at hSw); go_simp; try with_reducible rfl)); try simp only [Act.put, List.setIfInBounds_toArray, List.set_cons_zero, List.set_cons_succ]))
    ((refine wpAnyH_take (i := 34) (oi := ?g157_o) (v := ?g157_v) ?g157_hi (by kernel_rfl) (by kernel_rfl) (by kernel_rfl) ?g157_hq ?g157_hy (by assumption) ?g157_gr; (case g157_hi => (simp only [List.getElem?_toArray, List.getElem?_cons_succ, List.getElem?_cons_zero]; rfl)); (case g157_hq => exact fun _ _ _ h => h); (case g157_hy => (refine Or.inl ⟨by rfl, ?_⟩; intro w hSw; (try dsimp only at hSw); go_simp; try with_reducible rfl)); try simp only [Act.put, List.setIfInBounds_toArray, List.set_cons_zero, List.set_cons_succ]))
    ((refine wpAnyH_take (i := 35) (oi := ?g158_o) (v := ?g158_v) ?g158_hi (by kernel_rfl) (by kernel_rfl) (by kernel_rfl) ?g158_hq ?g158_hy (by assumption) ?g158_gr; (case g158_hi => (simp only [List.getElem?_toArray, List.getElem?_cons_succ, List.getElem?_cons_zero]; rfl)); (case g158_hq => exact fun _ _ _ h => h); (case g158_hy => (refine Or.inl ⟨by rfl, ?_⟩; intro w hSw; (try dsimp only at hSw); go_simp; try with_reducible rfl)); try simp only [Act.put, List.setIfInBounds_toArray, List.set_cons_zero, List.set_cons_succ]))
    refine wpAnyH_done (by kernel_rfl) ?_ _
    --LOOP
    have h35 := hHeld.2
    have HX5 := hide (HX3.out.trans h35)
    have B05 := hide (B0.out.ext h35)
    have B15 := hide (B1.out.ext h35)
    have A5 := hide (A3.out.ext h35)
    have H35 := hide h35
    have hft0 : 0 ≤ ft := by rw [← HFT.out]; exact FF.out.nn t
    clear h35 hHeld hb5 H4t q0 q1 q2 qz r0 r1 r2 r3 rz u0 u1 u2 u3 uz c00 c01 c10 c11 e1 e2 hne hfb m1 m2 m3 m4 m5 H4 B0 B1 B2 A3
    go_wp2_with fail
    go_loopw [12, 13] (fun sm i wr => ∃ k : Nat, k ≤ q.length ∧ i = .int .i64 k ∧ sm = .int .u64 (sumAt far q k) ∧ Ext w5 wr) (fun _ i _ => q.length - (intOf i).toNat)
    case atStart => exact ⟨0, by omega, rfl, rfl, Ext.refl _⟩
    case round =>
      obtain ⟨k, hk, rfl, rfl, hext⟩ := hrel
      have HXr := hide hext
      have HX3r := hide (H35.out.trans hext)
      clear hext
      have hqn := HL.out
      by_cases hlt : k < q.length
      · obtain ⟨u, hqu⟩ : ∃ u, q[k]? = some u := ⟨_, List.getElem?_eq_getElem hlt⟩
        have hfu := HW.out.fin k u hqu
        have hou := FF.out.open_ hfu
        obtain ⟨hun, huh⟩ := HOP.out u hou
        have vb := HVI.out u hun
        have cub := HCB.out u hou
        have cc := (H35.out.trans HXr.out).cell (p := ⟨ab, aoff + u, none⟩) (Nat.lt_of_lt_of_le zab0 HX3.out.size) |>.trans ((HX3.out.cell (p := ⟨ab, aoff + u, none⟩) zab0).trans (CC.out u hun))
        rw [← HCO.out] at cc
        have hc := HPC.out k (cellV W u) (by rw [List.getElem?_map, hqu]; rfl)
        simp only [cellV] at hc
        have c0 := (HX3r.out.cell (p := ⟨pb, po + k * 2, none⟩) hpb).trans hc.1
        have c1 := (HX3r.out.cell (p := ⟨pb, po + k * 2 + 1, none⟩) hpb).trans hc.2
        have zpb := Nat.lt_of_lt_of_le hpb HX3r.out.size
        have zab2 : ab < wr.heap.size := Nat.lt_of_lt_of_le zab0 (HX3.out.trans HX3r.out).size
        have B0r := hide (B05.out.ext HXr.out)
        have B1r := hide (B15.out.ext HXr.out)
        have Ar := hide (A5.out.ext HXr.out)
        have HU := hide hqu
        have HOU := hide hou
        have hui : vy W u * W + vx W u = (u : Int) := by
          have := idx_int (W := W) vb.1 wh.1 vb.2.2.1
          rw [idx_v wh.1 u] at this
          exact this.symm
        have m0 := mul_bd (a := vy W u) (b := W) (A := 256) (B := 256) (by omega) (by omega) (by omega) (by omega)
        have k1 : IntKind.i64.wrap (vy W u * W) = vy W u * W := IntWalk.i64_in _ (by omega)
        have k2 : IntKind.i64.wrap (vy W u * W + vx W u) = (u : Int) := by rw [hui]; exact IntWalk.i64_in _ (by omega)
        have d1 : decide ((n : Int) ≤ (u : Int)) = false := by simp; omega
        have d2 : decide (n ≤ u) = false := by simp; omega
        have d3 : (u : Int) < (n : Int) := by omega
        have HHu := hide (fun (w' : World) => HHa.out w' u huh)
        obtain ⟨cu, hcu⟩ : ∃ z, G.cost u = z := ⟨_, rfl⟩
        have HCU := hide hcu
        rw [hcu] at cc cub
        have d4 : (cu == 0) = false := by simp; omega
        have k3 : IntKind.u64.wrap cu = cu := by rw [IntKind.wrap_u64]; omega
        obtain ⟨fu, hfu2⟩ : ∃ z, far u = z := ⟨_, rfl⟩
        have HFU := hide hfu2
        rw [hfu2] at hfu
        have hfu0 : 0 ≤ fu := by rw [← hfu2]; exact FF.out.nn u
        have H4u := hide (fun w' (hx : Ext wr w') => (by have := H4o.out w' g cg _ far (Ar.out.ext hx) u huh; rw [HFU.out] at this; exact this : Calls Try.prog 46 #[.agg #[.int .i64 W, .int .i64 H, .slice (some ⟨ab, aoff, none⟩) n c], .agg #[.int .i64 bx, .int .i64 byy, .int .i64 bw, .int .i64 bh], .slice (some ⟨g, 0, none⟩) n cg, .agg #[.int .i64 (vx W u), .int .i64 (vy W u)]] w' fun e w'' => e = .returned (.int .u64 fu) ∧ Ext w' w''))
        have fne : (fu != fu) = false := by simp
        have rel1 : Hid (sumAt far q (k + 1) = fu) := hide (by show far (q.getD k 0) = fu; rw [List.getD_eq_getElem?_getD, HU.out]; exact HFU.out)
        have q0 := B0r.out.at 0 rfl; have q1 := B0r.out.at 1 rfl; have q2 := B0r.out.at 2 rfl; have qz := B0r.out.lt
        have r0 := B1r.out.at 0 rfl; have r1 := B1r.out.at 1 rfl; have r2 := B1r.out.at 2 rfl; have r3 := B1r.out.at 3 rfl; have rz := B1r.out.lt
        clear hc hqu hou hfu2 hcu huh m0 hui
        go_wp2_with fail
        refine wp_region_held_drew (S := (fun W => (∀ b o, b < wr.heap.size → W.cell? ⟨b, o, none⟩ = wr.cell? ⟨b, o, none⟩) ∧ Ext wr W)) (by kernel_rfl) (by first | with_reducible exact pr_start _ | exact pr_of (by (with_reducible (repeat' (first | exact Ext.refl _ | assumption | refine Ext.drew ?_ | refine Ext.drewN ?_ _ | refine Ext.alloc ?_ _ | refine Ext.setCell ?_ ?_ _ | refine Ext.trans ?_ (by assumption)))); all_goals (first | (simp; done) | (simp; omega)))) (fun hHeld => ?_)
        ((refine wpAnyH_take (i := 0) (oi := ?g159_o) (v := ?g159_v) ?g159_hi (by kernel_rfl) (by kernel_rfl) (by kernel_rfl) ?g159_hq ?g159_hy (by assumption) ?g159_gr; (case g159_hi => (simp only [List.getElem?_toArray, List.getElem?_cons_zero]; rfl)); (case g159_hq => exact fun _ _ _ h => h); (case g159_hy => (refine Or.inl ⟨by rfl, ?_⟩; intro w hSw; (try dsimp only at hSw); go_simp; try with_reducible rfl)); try simp only [Act.put, List.setIfInBounds_toArray, List.set_cons_zero, List.set_cons_succ]))
        ((refine wpAnyH_take (i := 1) (oi := ?g160_o) (v := ?g160_v) ?g160_hi (by kernel_rfl) (by kernel_rfl) (by kernel_rfl) ?g160_hq ?g160_hy (by assumption) ?g160_gr; (case g160_hi => (simp only [List.getElem?_toArray, List.getElem?_cons_succ, List.getElem?_cons_zero]; rfl)); (case g160_hq => exact fun _ _ _ h => h); (case g160_hy => (refine Or.inl ⟨by rfl, ?_⟩; intro w hSw; (try dsimp only at hSw); go_simp; try with_reducible rfl)); try simp only [Act.put, List.setIfInBounds_toArray, List.set_cons_zero, List.set_cons_succ]))
        ((refine wpAnyH_take (i := 2) (oi := ?g161_o) (v := ?g161_v) ?g161_hi (by kernel_rfl) (by kernel_rfl) (by kernel_rfl) ?g161_hq ?g161_hy (by assumption) ?g161_gr; (case g161_hi => (simp only [List.getElem?_toArray, List.getElem?_cons_succ, List.getElem?_cons_zero]; rfl)); (case g161_hq => exact fun _ _ _ h => h); (case g161_hy => (refine Or.inl ⟨by rfl, ?_⟩; intro w hSw; (try dsimp only at hSw); go_simp; try with_reducible rfl)); try simp only [Act.put, List.setIfInBounds_toArray, List.set_cons_zero, List.set_cons_succ]))
        ((refine wpAnyH_take (i := 3) (oi := ?g162_o) (v := ?g162_v) ?g162_hi (by kernel_rfl) (by kernel_rfl) (by kernel_rfl) ?g162_hq ?g162_hy (by assumption) ?g162_gr; (case g162_hi => (simp only [List.getElem?_toArray, List.getElem?_cons_succ, List.getElem?_cons_zero]; rfl)); (case g162_hq => exact fun _ _ _ h => h); (case g162_hy => (refine Or.inl ⟨by rfl, ?_⟩; intro w hSw; (try dsimp only at hSw); go_simp; try with_reducible rfl)); try simp only [Act.put, List.setIfInBounds_toArray, List.set_cons_zero, List.set_cons_succ]))
        ((refine wpAnyH_take (i := 4) (oi := ?g163_o) (v := ?g163_v) ?g163_hi (by kernel_rfl) (by kernel_rfl) (by kernel_rfl) ?g163_hq ?g163_hy (by assumption) ?g163_gr; (case g163_hi => (simp only [List.getElem?_toArray, List.getElem?_cons_succ, List.getElem?_cons_zero]; rfl)); (case g163_hq => exact fun _ _ _ h => h); (case g163_hy => (refine Or.inl ⟨by rfl, ?_⟩; intro w hSw; (try dsimp only at hSw); go_simp; try with_reducible rfl)); try simp only [Act.put, List.setIfInBounds_toArray, List.set_cons_zero, List.set_cons_succ]))
        ((refine wpAnyH_take (i := 5) (oi := ?g164_o) (v := ?g164_v) ?g164_hi (by kernel_rfl) (by kernel_rfl) (by kernel_rfl) ?g164_hq ?g164_hy (by assumption) ?g164_gr; (case g164_hi => (simp only [List.getElem?_toArray, List.getElem?_cons_succ, List.getElem?_cons_zero]; rfl)); (case g164_hq => exact fun _ _ _ h => h); (case g164_hy => (refine Or.inl ⟨by rfl, ?_⟩; intro w hSw; (try dsimp only at hSw); go_simp; try with_reducible rfl)); try simp only [Act.put, List.setIfInBounds_toArray, List.set_cons_zero, List.set_cons_succ]))
        ((refine wpAnyH_take (i := 6) (oi := ?g165_o) (v := ?g165_v) ?g165_hi (by kernel_rfl) (by kernel_rfl) (by kernel_rfl) ?g165_hq ?g165_hy (by assumption) ?g165_gr; (case g165_hi => (simp only [List.getElem?_toArray, List.getElem?_cons_succ, List.getElem?_cons_zero]; rfl)); (case g165_hq => exact fun _ _ _ h => h); (case g165_hy => (refine Or.inl ⟨by rfl, ?_⟩; intro w hSw; (try dsimp only at hSw); go_simp; try with_reducible rfl)); try simp only [Act.put, List.setIfInBounds_toArray, List.set_cons_zero, List.set_cons_succ]))
        ((refine wpAnyH_take (i := 7) (oi := ?g166_o) (v := ?g166_v) ?g166_hi (by kernel_rfl) (by kernel_rfl) (by kernel_rfl) ?g166_hq ?g166_hy (by assumption) ?g166_gr; (case g166_hi => (simp only [List.getElem?_toArray, List.getElem?_cons_succ, List.getElem?_cons_zero]; rfl)); (case g166_hq => exact fun _ _ _ h => h); (case g166_hy => (refine Or.inl ⟨by rfl, ?_⟩; intro w hSw; (try dsimp only at hSw); go_simp; try with_reducible rfl)); try simp only [Act.put, List.setIfInBounds_toArray, List.set_cons_zero, List.set_cons_succ]))
        ((refine wpAnyH_take (i := 8) (oi := ?g167_o) (v := ?g167_v) ?g167_hi (by kernel_rfl) (by kernel_rfl) (by kernel_rfl) ?g167_hq ?g167_hy (by assumption) ?g167_gr; (case g167_hi => (simp only [List.getElem?_toArray, List.getElem?_cons_succ, List.getElem?_cons_zero]; rfl)); (case g167_hq => exact fun _ _ _ h => h); (case g167_hy => (refine Or.inl ⟨by rfl, ?_⟩; intro w hSw; (try dsimp only at hSw); go_simp; try with_reducible rfl)); try simp only [Act.put, List.setIfInBounds_toArray, List.set_cons_zero, List.set_cons_succ]))
        ((refine wpAnyH_take (i := 9) (oi := ?g168_o) (v := ?g168_v) ?g168_hi (by kernel_rfl) (by kernel_rfl) (by kernel_rfl) ?g168_hq ?g168_hy (by assumption) ?g168_gr; (case g168_hi => (simp only [List.getElem?_toArray, List.getElem?_cons_succ, List.getElem?_cons_zero]; rfl)); (case g168_hq => exact fun _ _ _ h => h); (case g168_hy => (refine Or.inl ⟨by rfl, ?_⟩; intro w hSw; (try dsimp only at hSw); go_simp; try with_reducible rfl)); try simp only [Act.put, List.setIfInBounds_toArray, List.set_cons_zero, List.set_cons_succ]))
        ((refine wpAnyH_take (i := 10) (oi := ?g169_o) (v := ?g169_v) ?g169_hi (by kernel_rfl) (by kernel_rfl) (by kernel_rfl) ?g169_hq ?g169_hy (by assumption) ?g169_gr; (case g169_hi => (simp only [List.getElem?_toArray, List.getElem?_cons_succ, List.getElem?_cons_zero]; rfl)); (case g169_hq => exact fun _ _ _ h => h); (case g169_hy => (refine Or.inl ⟨by rfl, ?_⟩; intro w hSw; (try dsimp only at hSw); go_simp; try with_reducible rfl)); try simp only [Act.put, List.setIfInBounds_toArray, List.set_cons_zero, List.set_cons_succ]))
        ((refine wpAnyH_take (i := 11) (oi := ?g170_o) (v := ?g170_v) ?g170_hi (by kernel_rfl) (by kernel_rfl) (by kernel_rfl) ?g170_hq ?g170_hy (by assumption) ?g170_gr; (case g170_hi => (simp only [List.getElem?_toArray, List.getElem?_cons_succ, List.getElem?_cons_zero]; rfl)); (case g170_hq => exact fun _ _ _ h => h); (case g170_hy => (refine Or.inl ⟨by rfl, ?_⟩; intro w hSw; (try dsimp only at hSw); go_simp; try with_reducible rfl)); try simp only [Act.put, List.setIfInBounds_toArray, List.set_cons_zero, List.set_cons_succ]))
        ((refine wpAnyH_take (i := 12) (oi := ?g171_o) (v := ?g171_v) ?g171_hi (by kernel_rfl) (by kernel_rfl) (by kernel_rfl) ?g171_hq ?g171_hy (by assumption) ?g171_gr; (case g171_hi => (simp only [List.getElem?_toArray, List.getElem?_cons_succ, List.getElem?_cons_zero]; rfl)); (case g171_hq => exact fun _ _ _ h => h); (case g171_hy => (refine Or.inl ⟨by rfl, ?_⟩; intro w hSw; (try dsimp only at hSw); go_simp; try with_reducible rfl)); try simp only [Act.put, List.setIfInBounds_toArray, List.set_cons_zero, List.set_cons_succ]))
        ((refine wpAnyH_take (i := 13) (oi := ?g172_o) (v := ?g172_v) ?g172_hi (by kernel_rfl) (by kernel_rfl) (by kernel_rfl) ?g172_hq ?g172_hy (by assumption) ?g172_gr; (case g172_hi => (simp only [List.getElem?_toArray, List.getElem?_cons_succ, List.getElem?_cons_zero]; rfl)); (case g172_hq => exact fun _ _ _ h => h); (case g172_hy => (refine Or.inl ⟨by rfl, ?_⟩; intro w hSw; (try dsimp only at hSw); go_simp; try with_reducible rfl)); try simp only [Act.put, List.setIfInBounds_toArray, List.set_cons_zero, List.set_cons_succ]))
        ((refine wpAnyH_take (i := 14) (oi := ?g173_o) (v := ?g173_v) ?g173_hi (by kernel_rfl) (by kernel_rfl) (by kernel_rfl) ?g173_hq ?g173_hy (by assumption) ?g173_gr; (case g173_hi => (simp only [List.getElem?_toArray, List.getElem?_cons_succ, List.getElem?_cons_zero]; rfl)); (case g173_hq => exact fun _ _ _ h => h); (case g173_hy => (refine Or.inl ⟨by rfl, ?_⟩; intro w hSw; (try dsimp only at hSw); go_simp; try with_reducible rfl)); try simp only [Act.put, List.setIfInBounds_toArray, List.set_cons_zero, List.set_cons_succ]))
        ((refine wpAnyH_take (i := 15) (oi := ?g174_o) (v := ?g174_v) ?g174_hi (by kernel_rfl) (by kernel_rfl) (by kernel_rfl) ?g174_hq ?g174_hy (by assumption) ?g174_gr; (case g174_hi => (simp only [List.getElem?_toArray, List.getElem?_cons_succ, List.getElem?_cons_zero]; rfl)); (case g174_hq => exact fun _ _ _ h => h); (case g174_hy => (refine Or.inl ⟨by rfl, ?_⟩; intro w hSw; (try dsimp only at hSw); go_simp; try with_reducible rfl)); try simp only [Act.put, List.setIfInBounds_toArray, List.set_cons_zero, List.set_cons_succ]))
        refine wpAnyH_done (by kernel_rfl) ?_ _
        go_wp2_with fail
        refine wp_region_held_drew (S := (fun W => (∀ b o, b < wr.heap.size → W.cell? ⟨b, o, none⟩ = wr.cell? ⟨b, o, none⟩) ∧ Ext wr W)) (by kernel_rfl) (by first | with_reducible exact pr_start _ | exact pr_of (by (with_reducible (repeat' (first | exact Ext.refl _ | assumption | refine Ext.drew ?_ | refine Ext.drewN ?_ _ | refine Ext.alloc ?_ _ | refine Ext.setCell ?_ ?_ _ | refine Ext.trans ?_ (by assumption)))); all_goals (first | (simp; done) | (simp; omega)))) (fun hHeld => ?_)
        ((refine wpAnyH_take (i := 0) (oi := ?g175_o) (v := ?g175_v) ?g175_hi (by kernel_rfl) (by kernel_rfl) (by kernel_rfl) ?g175_hq ?g175_hy (by assumption) ?g175_gr; (case g175_hi => (simp only [List.getElem?_toArray, List.getElem?_cons_zero]; rfl)); (case g175_hq => exact fun _ _ _ h => h); (case g175_hy => (refine Or.inl ⟨by rfl, ?_⟩; intro w hSw; (try dsimp only at hSw); go_simp; try with_reducible rfl)); try simp only [Act.put, List.setIfInBounds_toArray, List.set_cons_zero, List.set_cons_succ]))
        ((refine wpAnyH_take (i := 1) (oi := ?g176_o) (v := ?g176_v) ?g176_hi (by kernel_rfl) (by kernel_rfl) (by kernel_rfl) ?g176_hq ?g176_hy (by assumption) ?g176_gr; (case g176_hi => (simp only [List.getElem?_toArray, List.getElem?_cons_succ, List.getElem?_cons_zero]; rfl)); (case g176_hq => exact fun _ _ _ h => h); (case g176_hy => (refine Or.inl ⟨by rfl, ?_⟩; intro w hSw; (try dsimp only at hSw); go_simp; try with_reducible rfl)); try simp only [Act.put, List.setIfInBounds_toArray, List.set_cons_zero, List.set_cons_succ]))
        ((refine wpAnyH_take (i := 2) (oi := ?g177_o) (v := ?g177_v) ?g177_hi (by kernel_rfl) (by kernel_rfl) (by kernel_rfl) ?g177_hq ?g177_hy (by assumption) ?g177_gr; (case g177_hi => (simp only [List.getElem?_toArray, List.getElem?_cons_succ, List.getElem?_cons_zero]; rfl)); (case g177_hq => exact fun _ _ _ h => h); (case g177_hy => (refine Or.inl ⟨by rfl, ?_⟩; intro w hSw; (try dsimp only at hSw); go_simp; try with_reducible rfl)); try simp only [Act.put, List.setIfInBounds_toArray, List.set_cons_zero, List.set_cons_succ]))
        ((refine wpAnyH_take (i := 3) (oi := ?g178_o) (v := ?g178_v) ?g178_hi (by kernel_rfl) (by kernel_rfl) (by kernel_rfl) ?g178_hq ?g178_hy (by assumption) ?g178_gr; (case g178_hi => (simp only [List.getElem?_toArray, List.getElem?_cons_succ, List.getElem?_cons_zero]; rfl)); (case g178_hq => exact fun _ _ _ h => h); (case g178_hy => (refine Or.inl ⟨by rfl, ?_⟩; intro w hSw; (try dsimp only at hSw); go_simp; try with_reducible rfl)); try simp only [Act.put, List.setIfInBounds_toArray, List.set_cons_zero, List.set_cons_succ]))
        ((refine wpAnyH_take (i := 4) (oi := ?g179_o) (v := ?g179_v) ?g179_hi (by kernel_rfl) (by kernel_rfl) (by kernel_rfl) ?g179_hq ?g179_hy (by assumption) ?g179_gr; (case g179_hi => (simp only [List.getElem?_toArray, List.getElem?_cons_succ, List.getElem?_cons_zero]; rfl)); (case g179_hq => exact fun _ _ _ h => h); (case g179_hy => (refine Or.inl ⟨by rfl, ?_⟩; intro w hSw; (try dsimp only at hSw); go_simp; try with_reducible rfl)); try simp only [Act.put, List.setIfInBounds_toArray, List.set_cons_zero, List.set_cons_succ]))
        (refine wpAnyH_ready (rs := [5]) (by kernel_rfl) (by simp) ?_; refine AllReadyH.cons (o := ?g180_o) ?g180_hi (fun K hK => ?_) AllReadyH.nil; (case g180_hi => (simp only [List.getElem?_toArray, List.getElem?_cons_succ, List.getElem?_cons_zero]; rfl)); go_simp; refine (HHu.out _).mono ?_; rintro e w6 ⟨rfl, hb6⟩; go_wp2_with fail; refine hK.out _ _ (pr_of (by (with_reducible (repeat' (first | exact Ext.refl _ | assumption | refine Ext.drew ?_ | refine Ext.drewN ?_ _ | refine Ext.alloc ?_ _ | refine Ext.setCell ?_ ?_ _ | refine Ext.trans ?_ (by assumption)))); all_goals (first | (simp; done) | (simp; omega)))) (fun hHeld => ?_); clear hK K; try simp only [Act.put, List.setIfInBounds_toArray, List.set_cons_zero, List.set_cons_succ])
        ((refine wpAnyH_take (i := 6) (oi := ?g181_o) (v := ?g181_v) ?g181_hi (by kernel_rfl) (by kernel_rfl) (by kernel_rfl) ?g181_hq ?g181_hy (by assumption) ?g181_gr; (case g181_hi => (simp only [List.getElem?_toArray, List.getElem?_cons_succ, List.getElem?_cons_zero]; rfl)); (case g181_hq => exact fun _ _ _ h => h); (case g181_hy => (refine Or.inl ⟨by rfl, ?_⟩; intro w hSw; (try dsimp only at hSw); go_simp; try with_reducible rfl)); try simp only [Act.put, List.setIfInBounds_toArray, List.set_cons_zero, List.set_cons_succ]))
        ((refine wpAnyH_take (i := 7) (oi := ?g182_o) (v := ?g182_v) ?g182_hi (by kernel_rfl) (by kernel_rfl) (by kernel_rfl) ?g182_hq ?g182_hy (by assumption) ?g182_gr; (case g182_hi => (simp only [List.getElem?_toArray, List.getElem?_cons_succ, List.getElem?_cons_zero]; rfl)); (case g182_hq => exact fun _ _ _ h => h); (case g182_hy => (refine Or.inl ⟨by rfl, ?_⟩; intro w hSw; (try dsimp only at hSw); go_simp; try with_reducible rfl)); try simp only [Act.put, List.setIfInBounds_toArray, List.set_cons_zero, List.set_cons_succ]))
        ((refine wpAnyH_take (i := 8) (oi := ?g183_o) (v := ?g183_v) ?g183_hi (by kernel_rfl) (by kernel_rfl) (by kernel_rfl) ?g183_hq ?g183_hy (by assumption) ?g183_gr; (case g183_hi => (simp only [List.getElem?_toArray, List.getElem?_cons_succ, List.getElem?_cons_zero]; rfl)); (case g183_hq => exact fun _ _ _ h => h); (case g183_hy => (refine Or.inl ⟨by rfl, ?_⟩; intro w hSw; (try dsimp only at hSw); go_simp; try with_reducible rfl)); try simp only [Act.put, List.setIfInBounds_toArray, List.set_cons_zero, List.set_cons_succ]))
        ((refine wpAnyH_take (i := 9) (oi := ?g184_o) (v := ?g184_v) ?g184_hi (by kernel_rfl) (by kernel_rfl) (by kernel_rfl) ?g184_hq ?g184_hy (by assumption) ?g184_gr; (case g184_hi => (simp only [List.getElem?_toArray, List.getElem?_cons_succ, List.getElem?_cons_zero]; rfl)); (case g184_hq => exact fun _ _ _ h => h); (case g184_hy => (refine Or.inl ⟨by rfl, ?_⟩; intro w hSw; (try dsimp only at hSw); go_simp; try with_reducible rfl)); try simp only [Act.put, List.setIfInBounds_toArray, List.set_cons_zero, List.set_cons_succ]))
        ((refine wpAnyH_take (i := 10) (oi := ?g185_o) (v := ?g185_v) ?g185_hi (by kernel_rfl) (by kernel_rfl) (by kernel_rfl) ?g185_hq ?g185_hy (by assumption) ?g185_gr; (case g185_hi => (simp only [List.getElem?_toArray, List.getElem?_cons_succ, List.getElem?_cons_zero]; rfl)); (case g185_hq => exact fun _ _ _ h => h); (case g185_hy => (refine Or.inl ⟨by rfl, ?_⟩; intro w hSw; (try dsimp only at hSw); go_simp; try with_reducible rfl)); try simp only [Act.put, List.setIfInBounds_toArray, List.set_cons_zero, List.set_cons_succ]))
        ((refine wpAnyH_take (i := 11) (oi := ?g186_o) (v := ?g186_v) ?g186_hi (by kernel_rfl) (by kernel_rfl) (by kernel_rfl) ?g186_hq ?g186_hy (by assumption) ?g186_gr; (case g186_hi => (simp only [List.getElem?_toArray, List.getElem?_cons_succ, List.getElem?_cons_zero]; rfl)); (case g186_hq => exact fun _ _ _ h => h); (case g186_hy => (refine Or.inl ⟨by rfl, ?_⟩; intro w hSw; (try dsimp only at hSw); go_simp; try with_reducible rfl)); try simp only [Act.put, List.setIfInBounds_toArray, List.set_cons_zero, List.set_cons_succ]))
        ((refine wpAnyH_take (i := 12) (oi := ?g187_o) (v := ?g187_v) ?g187_hi (by kernel_rfl) (by kernel_rfl) (by kernel_rfl) ?g187_hq ?g187_hy (by assumption) ?g187_gr; (case g187_hi => (simp only [List.getElem?_toArray, List.getElem?_cons_succ, List.getElem?_cons_zero]; rfl)); (case g187_hq => exact fun _ _ _ h => h); (case g187_hy => (refine Or.inl ⟨by rfl, ?_⟩; intro w hSw; (try dsimp only at hSw); go_simp; try with_reducible rfl)); try simp only [Act.put, List.setIfInBounds_toArray, List.set_cons_zero, List.set_cons_succ]))
        ((refine wpAnyH_take (i := 13) (oi := ?g188_o) (v := ?g188_v) ?g188_hi (by kernel_rfl) (by kernel_rfl) (by kernel_rfl) ?g188_hq ?g188_hy (by assumption) ?g188_gr; (case g188_hi => (simp only [List.getElem?_toArray, List.getElem?_cons_succ, List.getElem?_cons_zero]; rfl)); (case g188_hq => exact fun _ _ _ h => h); (case g188_hy => (refine Or.inl ⟨by rfl, ?_⟩; intro w hSw; (try dsimp only at hSw); go_simp; try with_reducible rfl)); try simp only [Act.put, List.setIfInBounds_toArray, List.set_cons_zero, List.set_cons_succ]))
        ((refine wpAnyH_take (i := 14) (oi := ?g189_o) (v := ?g189_v) ?g189_hi (by kernel_rfl) (by kernel_rfl) (by kernel_rfl) ?g189_hq ?g189_hy (by assumption) ?g189_gr; (case g189_hi => (simp only [List.getElem?_toArray, List.getElem?_cons_succ, List.getElem?_cons_zero]; rfl)); (case g189_hq => exact fun _ _ _ h => h); (case g189_hy => (refine Or.inl ⟨by rfl, ?_⟩; intro w hSw; (try dsimp only at hSw); go_simp; try with_reducible rfl)); try simp only [Act.put, List.setIfInBounds_toArray, List.set_cons_zero, List.set_cons_succ]))
        ((refine wpAnyH_take (i := 15) (oi := ?g190_o) (v := ?g190_v) ?g190_hi (by kernel_rfl) (by kernel_rfl) (by kernel_rfl) ?g190_hq ?g190_hy (by assumption) ?g190_gr; (case g190_hi => (simp only [List.getElem?_toArray, List.getElem?_cons_succ, List.getElem?_cons_zero]; rfl)); (case g190_hq => exact fun _ _ _ h => h); (case g190_hy => (refine Or.inl ⟨by rfl, ?_⟩; intro w hSw; (try dsimp only at hSw); go_simp; try with_reducible rfl)); try simp only [Act.put, List.setIfInBounds_toArray, List.set_cons_zero, List.set_cons_succ]))
        ((refine wpAnyH_take (i := 16) (oi := ?g191_o) (v := ?g191_v) ?g191_hi (by kernel_rfl) (by kernel_rfl) (by kernel_rfl) ?g191_hq ?g191_hy (by assumption) ?g191_gr; (case g191_hi => (simp only [List.getElem?_toArray, List.getElem?_cons_succ, List.getElem?_cons_zero]; rfl)); (case g191_hq => exact fun _ _ _ h => h); (case g191_hy => (refine Or.inl ⟨by rfl, ?_⟩; intro w hSw; (try dsimp only at hSw); go_simp; try with_reducible rfl)); try simp only [Act.put, List.setIfInBounds_toArray, List.set_cons_zero, List.set_cons_succ]))
        ((refine wpAnyH_take (i := 17) (oi := ?g192_o) (v := ?g192_v) ?g192_hi (by kernel_rfl) (by kernel_rfl) (by kernel_rfl) ?g192_hq ?g192_hy (by assumption) ?g192_gr; (case g192_hi => (simp only [List.getElem?_toArray, List.getElem?_cons_succ, List.getElem?_cons_zero]; rfl)); (case g192_hq => exact fun _ _ _ h => h); (case g192_hy => (refine Or.inl ⟨by rfl, ?_⟩; intro w hSw; (try dsimp only at hSw); go_simp; try with_reducible rfl)); try simp only [Act.put, List.setIfInBounds_toArray, List.set_cons_zero, List.set_cons_succ]))
        ((refine wpAnyH_take (i := 18) (oi := ?g193_o) (v := ?g193_v) ?g193_hi (by kernel_rfl) (by kernel_rfl) (by kernel_rfl) ?g193_hq ?g193_hy (by assumption) ?g193_gr; (case g193_hi => (simp only [List.getElem?_toArray, List.getElem?_cons_succ, List.getElem?_cons_zero]; rfl)); (case g193_hq => exact fun _ _ _ h => h); (case g193_hy => (refine Or.inl ⟨by rfl, ?_⟩; intro w hSw; (try dsimp only at hSw); go_simp; try with_reducible rfl)); try simp only [Act.put, List.setIfInBounds_toArray, List.set_cons_zero, List.set_cons_succ]))
        ((refine wpAnyH_take (i := 19) (oi := ?g194_o) (v := ?g194_v) ?g194_hi (by kernel_rfl) (by kernel_rfl) (by kernel_rfl) ?g194_hq ?g194_hy (by assumption) ?g194_gr; (case g194_hi => (simp only [List.getElem?_toArray, List.getElem?_cons_succ, List.getElem?_cons_zero]; rfl)); (case g194_hq => exact fun _ _ _ h => h); (case g194_hy => (refine Or.inl ⟨by rfl, ?_⟩; intro w hSw; (try dsimp only at hSw); go_simp; try with_reducible rfl)); try simp only [Act.put, List.setIfInBounds_toArray, List.set_cons_zero, List.set_cons_succ]))
        ((refine wpAnyH_take (i := 20) (oi := ?g195_o) (v := ?g195_v) ?g195_hi (by kernel_rfl) (by kernel_rfl) (by kernel_rfl) ?g195_hq ?g195_hy (by assumption) ?g195_gr; (case g195_hi => (simp only [List.getElem?_toArray, List.getElem?_cons_succ, List.getElem?_cons_zero]; rfl)); (case g195_hq => exact fun _ _ _ h => h); (case g195_hy => (refine Or.inl ⟨by rfl, ?_⟩; intro w hSw; (try dsimp only at hSw); go_simp; try with_reducible rfl)); try simp only [Act.put, List.setIfInBounds_toArray, List.set_cons_zero, List.set_cons_succ]))
        ((refine wpAnyH_take (i := 21) (oi := ?g196_o) (v := ?g196_v) ?g196_hi (by kernel_rfl) (by kernel_rfl) (by kernel_rfl) ?g196_hq ?g196_hy (by assumption) ?g196_gr; (case g196_hi => (simp only [List.getElem?_toArray, List.getElem?_cons_succ, List.getElem?_cons_zero]; rfl)); (case g196_hq => exact fun _ _ _ h => h); (case g196_hy => (refine Or.inl ⟨by rfl, ?_⟩; intro w hSw; (try dsimp only at hSw); go_simp; try with_reducible rfl)); try simp only [Act.put, List.setIfInBounds_toArray, List.set_cons_zero, List.set_cons_succ]))
        ((refine wpAnyH_take (i := 22) (oi := ?g197_o) (v := ?g197_v) ?g197_hi (by kernel_rfl) (by kernel_rfl) (by kernel_rfl) ?g197_hq ?g197_hy (by assumption) ?g197_gr; (case g197_hi => (simp only [List.getElem?_toArray, List.getElem?_cons_succ, List.getElem?_cons_zero]; rfl)); (case g197_hq => exact fun _ _ _ h => h); (case g197_hy => (refine Or.inl ⟨by rfl, ?_⟩; intro w hSw; (try dsimp only at hSw); go_simp; try with_reducible rfl)); try simp only [Act.put, List.setIfInBounds_toArray, List.set_cons_zero, List.set_cons_succ]))
        ((refine wpAnyH_take (i := 23) (oi := ?g198_o) (v := ?g198_v) ?g198_hi (by kernel_rfl) (by kernel_rfl) (by kernel_rfl) ?g198_hq ?g198_hy (by assumption) ?g198_gr; (case g198_hi => (simp only [List.getElem?_toArray, List.getElem?_cons_succ, List.getElem?_cons_zero]; rfl)); (case g198_hq => exact fun _ _ _ h => h); (case g198_hy => (refine Or.inl ⟨by rfl, ?_⟩; intro w hSw; (try dsimp only at hSw); go_simp; try with_reducible rfl)); try simp only [Act.put, List.setIfInBounds_toArray, List.set_cons_zero, List.set_cons_succ]))
        ((refine wpAnyH_take (i := 24) (oi := ?g199_o) (v := ?g199_v) ?g199_hi (by kernel_rfl) (by kernel_rfl) (by kernel_rfl) ?g199_hq ?g199_hy (by assumption) ?g199_gr; (case g199_hi => (simp only [List.getElem?_toArray, List.getElem?_cons_succ, List.getElem?_cons_zero]; rfl)); (case g199_hq => exact fun _ _ _ h => h); (case g199_hy => (refine Or.inl ⟨by rfl, ?_⟩; intro w hSw; (try dsimp only at hSw); go_simp; try with_reducible rfl)); try simp only [Act.put, List.setIfInBounds_toArray, List.set_cons_zero, List.set_cons_succ]))
        ((refine wpAnyH_take (i := 25) (oi := ?g200_o) (v := ?g200_v) ?g200_hi (by kernel_rfl) (by kernel_rfl) (by kernel_rfl) ?g200_hq ?g200_hy (by assumption) ?g200_gr; (case g200_hi => (simp only [List.getElem?_toArray, List.getElem?_cons_succ, List.getElem?_cons_zero]; rfl)); (case g200_hq => exact fun _ _ _ h => h); (case g200_hy => (refine Or.inl ⟨by rfl, ?_⟩; intro w hSw; (try dsimp only at hSw); go_simp; try with_reducible rfl)); try simp only [Act.put, List.setIfInBounds_toArray, List.set_cons_zero, List.set_cons_succ]))
        refine wpAnyH_done (by kernel_rfl) ?_ _
        have hx6 := hHeld.2
        have HX6 := hide hx6
        clear hHeld hb6 HHu
        have END : Hid (∀ w', Ext wr w' → ∃ k' : Nat, k' ≤ q.length ∧ Value.int .i64 ((k : Int) + 1) = .int .i64 k' ∧ Value.int .u64 fu = .int .u64 (sumAt far q k') ∧ Ext w5 w') := hide (fun w' hx => ⟨k + 1, hlt, by go_num, by rw [rel1.out], HXr.out.trans hx⟩)
        by_cases hk0 : k = 0
        · subst hk0
          have hf0 : fu = 0 := by
            have h1 := HW.out.first
            rw [HU.out] at h1
            simp only [Option.some.injEq] at h1
            rw [← HFU.out, h1]
            exact FF.out.start (by rw [← h1]; exact HOU.out)
          subst hf0
          rw [show sumAt far q 0 = 0 from rfl]
          simp only [Nat.zero_mul, Nat.add_zero] at c0 c1
          go_wp2_with fail
          refine wp_region_held_drew (S := (fun W => (∀ b o, b < wr.heap.size → W.cell? ⟨b, o, none⟩ = wr.cell? ⟨b, o, none⟩) ∧ Ext wr W)) (by kernel_rfl) (by first | with_reducible exact pr_start _ | exact pr_of (by (with_reducible (repeat' (first | exact Ext.refl _ | assumption | refine Ext.drew ?_ | refine Ext.drewN ?_ _ | refine Ext.alloc ?_ _ | refine Ext.setCell ?_ ?_ _ | refine Ext.trans ?_ (by assumption)))); all_goals (first | (simp; done) | (simp; omega)))) (fun hHeld => ?_)
          ((refine wpAnyH_take (i := 0) (oi := ?g201_o) (v := ?g201_v) ?g201_hi (by kernel_rfl) (by kernel_rfl) (by kernel_rfl) ?g201_hq ?g201_hy (by assumption) ?g201_gr; (case g201_hi => (simp only [List.getElem?_toArray, List.getElem?_cons_zero]; rfl)); (case g201_hq => exact fun _ _ _ h => h); (case g201_hy => (refine Or.inl ⟨by rfl, ?_⟩; intro w hSw; (try dsimp only at hSw); go_simp; try with_reducible rfl)); try simp only [Act.put, List.setIfInBounds_toArray, List.set_cons_zero, List.set_cons_succ]))
          ((refine wpAnyH_take (i := 1) (oi := ?g202_o) (v := ?g202_v) ?g202_hi (by kernel_rfl) (by kernel_rfl) (by kernel_rfl) ?g202_hq ?g202_hy (by assumption) ?g202_gr; (case g202_hi => (simp only [List.getElem?_toArray, List.getElem?_cons_succ, List.getElem?_cons_zero]; rfl)); (case g202_hq => exact fun _ _ _ h => h); (case g202_hy => (refine Or.inl ⟨by rfl, ?_⟩; intro w hSw; (try dsimp only at hSw); go_simp; try with_reducible rfl)); try simp only [Act.put, List.setIfInBounds_toArray, List.set_cons_zero, List.set_cons_succ]))
          ((refine wpAnyH_take (i := 2) (oi := ?g203_o) (v := ?g203_v) ?g203_hi (by kernel_rfl) (by kernel_rfl) (by kernel_rfl) ?g203_hq ?g203_hy (by assumption) ?g203_gr; (case g203_hi => (simp only [List.getElem?_toArray, List.getElem?_cons_succ, List.getElem?_cons_zero]; rfl)); (case g203_hq => exact fun _ _ _ h => h); (case g203_hy => (refine Or.inl ⟨by rfl, ?_⟩; intro w hSw; (try dsimp only at hSw); go_simp; try with_reducible rfl)); try simp only [Act.put, List.setIfInBounds_toArray, List.set_cons_zero, List.set_cons_succ]))
          ((refine wpAnyH_take (i := 3) (oi := ?g204_o) (v := ?g204_v) ?g204_hi (by kernel_rfl) (by kernel_rfl) (by kernel_rfl) ?g204_hq ?g204_hy (by assumption) ?g204_gr; (case g204_hi => (simp only [List.getElem?_toArray, List.getElem?_cons_succ, List.getElem?_cons_zero]; rfl)); (case g204_hq => exact fun _ _ _ h => h); (case g204_hy => (refine Or.inl ⟨by rfl, ?_⟩; intro w hSw; (try dsimp only at hSw); go_simp; try with_reducible rfl)); try simp only [Act.put, List.setIfInBounds_toArray, List.set_cons_zero, List.set_cons_succ]))
          ((refine wpAnyH_take (i := 4) (oi := ?g205_o) (v := ?g205_v) ?g205_hi (by kernel_rfl) (by kernel_rfl) (by kernel_rfl) ?g205_hq ?g205_hy (by assumption) ?g205_gr; (case g205_hi => (simp only [List.getElem?_toArray, List.getElem?_cons_succ, List.getElem?_cons_zero]; rfl)); (case g205_hq => exact fun _ _ _ h => h); (case g205_hy => (refine Or.inl ⟨by rfl, ?_⟩; intro w hSw; (try dsimp only at hSw); go_simp; try with_reducible rfl)); try simp only [Act.put, List.setIfInBounds_toArray, List.set_cons_zero, List.set_cons_succ]))
          ((refine wpAnyH_take (i := 5) (oi := ?g206_o) (v := ?g206_v) ?g206_hi (by kernel_rfl) (by kernel_rfl) (by kernel_rfl) ?g206_hq ?g206_hy (by assumption) ?g206_gr; (case g206_hi => (simp only [List.getElem?_toArray, List.getElem?_cons_succ, List.getElem?_cons_zero]; rfl)); (case g206_hq => exact fun _ _ _ h => h); (case g206_hy => (refine Or.inl ⟨by rfl, ?_⟩; intro w hSw; (try dsimp only at hSw); go_simp; try with_reducible rfl)); try simp only [Act.put, List.setIfInBounds_toArray, List.set_cons_zero, List.set_cons_succ]))
          ((refine wpAnyH_take (i := 6) (oi := ?g207_o) (v := ?g207_v) ?g207_hi (by kernel_rfl) (by kernel_rfl) (by kernel_rfl) ?g207_hq ?g207_hy (by assumption) ?g207_gr; (case g207_hi => (simp only [List.getElem?_toArray, List.getElem?_cons_succ, List.getElem?_cons_zero]; rfl)); (case g207_hq => exact fun _ _ _ h => h); (case g207_hy => (refine Or.inl ⟨by rfl, ?_⟩; intro w hSw; (try dsimp only at hSw); go_simp; try with_reducible rfl)); try simp only [Act.put, List.setIfInBounds_toArray, List.set_cons_zero, List.set_cons_succ]))
          ((refine wpAnyH_take (i := 8) (oi := ?g208_o) (v := ?g208_v) ?g208_hi (by kernel_rfl) (by kernel_rfl) (by kernel_rfl) ?g208_hq ?g208_hy (by assumption) ?g208_gr; (case g208_hi => (simp only [List.getElem?_toArray, List.getElem?_cons_succ, List.getElem?_cons_zero]; rfl)); (case g208_hq => exact fun _ _ _ h => h); (case g208_hy => (refine Or.inl ⟨by rfl, ?_⟩; intro w hSw; (try dsimp only at hSw); go_simp; try with_reducible rfl)); try simp only [Act.put, List.setIfInBounds_toArray, List.set_cons_zero, List.set_cons_succ]))
          (refine wpAnyH_ready (rs := [7]) (by kernel_rfl) (by simp) ?_; refine AllReadyH.cons (o := ?g209_o) ?g209_hi (fun K hK => ?_) AllReadyH.nil; (case g209_hi => (simp only [List.getElem?_toArray, List.getElem?_cons_succ, List.getElem?_cons_zero]; rfl)); go_simp; refine (H4u.out _ (by (with_reducible (repeat' (first | exact Ext.refl _ | assumption | refine Ext.drew ?_ | refine Ext.drewN ?_ _ | refine Ext.alloc ?_ _ | refine Ext.setCell ?_ ?_ _ | refine Ext.trans ?_ (by assumption)))); all_goals (first | (simp; done) | (simp; omega)))).mono ?_; rintro e w8 ⟨rfl, hb8⟩; go_wp2_with fail; refine hK.out _ _ (pr_of (by (with_reducible (repeat' (first | exact Ext.refl _ | assumption | refine Ext.drew ?_ | refine Ext.drewN ?_ _ | refine Ext.alloc ?_ _ | refine Ext.setCell ?_ ?_ _ | refine Ext.trans ?_ (by assumption)))); all_goals (first | (simp; done) | (simp; omega)))) (fun hHeld => ?_); clear hK K; try simp only [Act.put, List.setIfInBounds_toArray, List.set_cons_zero, List.set_cons_succ])
          ((refine wpAnyH_take (i := 9) (oi := ?g210_o) (v := ?g210_v) ?g210_hi (by kernel_rfl) (by kernel_rfl) (by kernel_rfl) ?g210_hq ?g210_hy (by assumption) ?g210_gr; (case g210_hi => (simp only [List.getElem?_toArray, List.getElem?_cons_succ, List.getElem?_cons_zero]; rfl)); (case g210_hq => exact fun _ _ _ h => h); (case g210_hy => (refine Or.inl ⟨by rfl, ?_⟩; intro w hSw; (try dsimp only at hSw); go_simp; try with_reducible rfl)); try simp only [Act.put, List.setIfInBounds_toArray, List.set_cons_zero, List.set_cons_succ]))
          refine wpAnyH_done (by kernel_rfl) ?_ _
          have hx8 := hHeld.2
          go_wp2_with fail
          go_roundw
          case rel => exact END.out _ hx8
          case measure => simp [intOf]; omega
        · obtain ⟨j, hjk⟩ : ∃ j, k = j + 1 := ⟨k - 1, by omega⟩
          obtain ⟨v, hqv⟩ : ∃ v, q[j]? = some v := ⟨_, List.getElem?_eq_getElem (by omega)⟩
          have hn := HW.out.next j v u hqv (by rw [← hjk]; exact HU.out)
          have hfv := FF.out.nn v
          have hov := FF.out.open_ (HW.out.fin j v hqv)
          have hvv := HVI.out v (HOP.out v hov).1
          have hs : sumAt far q k = far v := by rw [hjk]; show far (q.getD j 0) = far v; rw [List.getD_eq_getElem?_getD, hqv]; rfl
          have hbes := HAD.out v u hn.2
          have hsu : far v + cu = fu := by rw [← HFU.out, ← HCU.out]; exact hn.1.symm
          rw [hs]
          obtain ⟨fv, hfv2⟩ : ∃ z, far v = z := ⟨_, rfl⟩
          rw [hfv2] at hsu hfv ⊢
          have eI : infI = 18446744073709551615 := rfl
          rw [eI] at hfu
          have k4 : IntKind.u64.wrap (fv + cu) = fu := by rw [IntKind.wrap_u64]; omega
          have hc := HPC.out j (cellV W v) (by rw [List.getElem?_map, hqv]; rfl)
          simp only [cellV] at hc
          have HB := hide hbes
          have HD := hide hc
          have HVV := hide hvv
          have cc6 := (hx6.cell (p := ⟨ab, aoff + u, none⟩) zab2).trans cc
          have q26 := (hx6.cell (p := ⟨w.heap.size, 2, none⟩) qz).trans q2
          clear hn hov hs hfv2 hqv hbes hc hsu hvv hfu eI hfv
          go_wp2_with fail
          go_loopw [15, 16] (fun b i wd => ∃ m : Nat, m ≤ 4 ∧ i = .int .i64 m ∧ b = .bool (besB (cellV W v) (cellV W u) m) ∧ Ext w6 wd) (fun _ i _ => 4 - (intOf i).toNat)
          case atStart => exact ⟨0, by omega, rfl, rfl, (by (with_reducible (repeat' (first | exact Ext.refl _ | assumption | refine Ext.drew ?_ | refine Ext.drewN ?_ _ | refine Ext.alloc ?_ _ | refine Ext.setCell ?_ ?_ _ | refine Ext.trans ?_ (by assumption)))); all_goals (first | (simp; done) | (simp; omega)))⟩
          case round =>
            obtain ⟨m, hm, rfl, rfl, hext⟩ := hrel
            have HXd := hide (HX6.out.trans hext)
            have HXd6 := hide hext
            by_cases hm4 : m < 4
            · have hc := HD.out
              have hx3 := HX3r.out.trans HXd.out
              have e0 := (hx3.cell (p := ⟨pb, po + j * 2, none⟩) hpb).trans hc.1
              have e1 := (hx3.cell (p := ⟨pb, po + j * 2 + 1, none⟩) hpb).trans hc.2
              have e2 := (HXd.out.cell (p := ⟨pb, po + k * 2, none⟩) zpb).trans c0
              have e3 := (HXd.out.cell (p := ⟨pb, po + k * 2 + 1, none⟩) zpb).trans c1
              have zpd : pb < wr.heap.size := Nat.lt_of_lt_of_le hpb hx3.size
              have hvv := HVV.out
              have S1 := hide (fun w' => rStep_any (vx W v) (vy W v) (m : Int) w' (by omega) (by omega))
              have hq1 := fun w => eq_cell (stepX (vx W v) (m : Int), stepY (vy W v) (m : Int)) (vx W u, vy W u) w
              simp only at hq1
              have HBS := hide (show besB (cellV W v) (cellV W u) (m + 1) = (besB (cellV W v) (cellV W u) m || cellB (stepX (vx W v) (m : Int), stepY (vy W v) (m : Int)) (vx W u, vy W u)) from rfl)
              have j1 : (j : Int) < (q.length : Int) := by omega
              have j2 : (k : Int) < (q.length : Int) := by omega
              have j6 : IntKind.i64.wrap ((k : Int) - 1) = (j : Int) := by rw [show (k : Int) - 1 = j by omega]; exact IntWalk.i64_in _ (by omega)
              generalize stepX (vx W v) (m : Int) = sx at *
              generalize stepY (vy W v) (m : Int) = sy at *
              generalize cellB (sx, sy) (vx W u, vy W u) = cb at *
              clear hc hx3 hext c0 c1 hvv hjk hk0
              cases hbm : besB (cellV W v) (cellV W u) m
              · rw [hbm] at HBS
                clear hbm
                go_wp2_with fail
                refine wp_region_held_drew (S := (fun W => (∀ b o, b < wr.heap.size → W.cell? ⟨b, o, none⟩ = wr.cell? ⟨b, o, none⟩) ∧ Ext wr W)) (by kernel_rfl) (by first | with_reducible exact pr_start _ | exact pr_of (by (with_reducible (repeat' (first | exact Ext.refl _ | assumption | refine Ext.drew ?_ | refine Ext.drewN ?_ _ | refine Ext.alloc ?_ _ | refine Ext.setCell ?_ ?_ _ | refine Ext.trans ?_ (by assumption)))); all_goals (first | (simp; done) | (simp; omega)))) (fun hHeld => ?_)
                ((refine wpAnyH_take (i := 0) (oi := ?g211_o) (v := ?g211_v) ?g211_hi (by kernel_rfl) (by kernel_rfl) (by kernel_rfl) ?g211_hq ?g211_hy (by assumption) ?g211_gr; (case g211_hi => (simp only [List.getElem?_toArray, List.getElem?_cons_zero]; rfl)); (case g211_hq => exact fun _ _ _ h => h); (case g211_hy => (refine Or.inl ⟨by rfl, ?_⟩; intro w hSw; (try dsimp only at hSw); go_simp; try with_reducible rfl)); try simp only [Act.put, List.setIfInBounds_toArray, List.set_cons_zero, List.set_cons_succ]))
                ((refine wpAnyH_take (i := 1) (oi := ?g212_o) (v := ?g212_v) ?g212_hi (by kernel_rfl) (by kernel_rfl) (by kernel_rfl) ?g212_hq ?g212_hy (by assumption) ?g212_gr; (case g212_hi => (simp only [List.getElem?_toArray, List.getElem?_cons_succ, List.getElem?_cons_zero]; rfl)); (case g212_hq => exact fun _ _ _ h => h); (case g212_hy => (refine Or.inl ⟨by rfl, ?_⟩; intro w hSw; (try dsimp only at hSw); go_simp; try with_reducible rfl)); try simp only [Act.put, List.setIfInBounds_toArray, List.set_cons_zero, List.set_cons_succ]))
                ((refine wpAnyH_take (i := 2) (oi := ?g213_o) (v := ?g213_v) ?g213_hi (by kernel_rfl) (by kernel_rfl) (by kernel_rfl) ?g213_hq ?g213_hy (by assumption) ?g213_gr; (case g213_hi => (simp only [List.getElem?_toArray, List.getElem?_cons_succ, List.getElem?_cons_zero]; rfl)); (case g213_hq => exact fun _ _ _ h => h); (case g213_hy => (refine Or.inl ⟨by rfl, ?_⟩; intro w hSw; (try dsimp only at hSw); go_simp; try with_reducible rfl)); try simp only [Act.put, List.setIfInBounds_toArray, List.set_cons_zero, List.set_cons_succ]))
                ((refine wpAnyH_take (i := 3) (oi := ?g214_o) (v := ?g214_v) ?g214_hi (by kernel_rfl) (by kernel_rfl) (by kernel_rfl) ?g214_hq ?g214_hy (by assumption) ?g214_gr; (case g214_hi => (simp only [List.getElem?_toArray, List.getElem?_cons_succ, List.getElem?_cons_zero]; rfl)); (case g214_hq => exact fun _ _ _ h => h); (case g214_hy => (refine Or.inl ⟨by rfl, ?_⟩; intro w hSw; (try dsimp only at hSw); go_simp; try with_reducible rfl)); try simp only [Act.put, List.setIfInBounds_toArray, List.set_cons_zero, List.set_cons_succ]))
                ((refine wpAnyH_take (i := 4) (oi := ?g215_o) (v := ?g215_v) ?g215_hi (by kernel_rfl) (by kernel_rfl) (by kernel_rfl) ?g215_hq ?g215_hy (by assumption) ?g215_gr; (case g215_hi => (simp only [List.getElem?_toArray, List.getElem?_cons_succ, List.getElem?_cons_zero]; rfl)); (case g215_hq => exact fun _ _ _ h => h); (case g215_hy => (refine Or.inl ⟨by rfl, ?_⟩; intro w hSw; (try dsimp only at hSw); go_simp; try with_reducible rfl)); try simp only [Act.put, List.setIfInBounds_toArray, List.set_cons_zero, List.set_cons_succ]))
                ((refine wpAnyH_take (i := 5) (oi := ?g216_o) (v := ?g216_v) ?g216_hi (by kernel_rfl) (by kernel_rfl) (by kernel_rfl) ?g216_hq ?g216_hy (by assumption) ?g216_gr; (case g216_hi => (simp only [List.getElem?_toArray, List.getElem?_cons_succ, List.getElem?_cons_zero]; rfl)); (case g216_hq => exact fun _ _ _ h => h); (case g216_hy => (refine Or.inl ⟨by rfl, ?_⟩; intro w hSw; (try dsimp only at hSw); go_simp; try with_reducible rfl)); try simp only [Act.put, List.setIfInBounds_toArray, List.set_cons_zero, List.set_cons_succ]))
                ((refine wpAnyH_take (i := 6) (oi := ?g217_o) (v := ?g217_v) ?g217_hi (by kernel_rfl) (by kernel_rfl) (by kernel_rfl) ?g217_hq ?g217_hy (by assumption) ?g217_gr; (case g217_hi => (simp only [List.getElem?_toArray, List.getElem?_cons_succ, List.getElem?_cons_zero]; rfl)); (case g217_hq => exact fun _ _ _ h => h); (case g217_hy => (refine Or.inl ⟨by rfl, ?_⟩; intro w hSw; (try dsimp only at hSw); go_simp; try with_reducible rfl)); try simp only [Act.put, List.setIfInBounds_toArray, List.set_cons_zero, List.set_cons_succ]))
                ((refine wpAnyH_take (i := 7) (oi := ?g218_o) (v := ?g218_v) ?g218_hi (by kernel_rfl) (by kernel_rfl) (by kernel_rfl) ?g218_hq ?g218_hy (by assumption) ?g218_gr; (case g218_hi => (simp only [List.getElem?_toArray, List.getElem?_cons_succ, List.getElem?_cons_zero]; rfl)); (case g218_hq => exact fun _ _ _ h => h); (case g218_hy => (refine Or.inl ⟨by rfl, ?_⟩; intro w hSw; (try dsimp only at hSw); go_simp; try with_reducible rfl)); try simp only [Act.put, List.setIfInBounds_toArray, List.set_cons_zero, List.set_cons_succ]))
                ((refine wpAnyH_take (i := 9) (oi := ?g219_o) (v := ?g219_v) ?g219_hi (by kernel_rfl) (by kernel_rfl) (by kernel_rfl) ?g219_hq ?g219_hy (by assumption) ?g219_gr; (case g219_hi => (simp only [List.getElem?_toArray, List.getElem?_cons_succ, List.getElem?_cons_zero]; rfl)); (case g219_hq => exact fun _ _ _ h => h); (case g219_hy => (refine Or.inl ⟨by rfl, ?_⟩; intro w hSw; (try dsimp only at hSw); go_simp; try with_reducible rfl)); try simp only [Act.put, List.setIfInBounds_toArray, List.set_cons_zero, List.set_cons_succ]))
                ((refine wpAnyH_take (i := 10) (oi := ?g220_o) (v := ?g220_v) ?g220_hi (by kernel_rfl) (by kernel_rfl) (by kernel_rfl) ?g220_hq ?g220_hy (by assumption) ?g220_gr; (case g220_hi => (simp only [List.getElem?_toArray, List.getElem?_cons_succ, List.getElem?_cons_zero]; rfl)); (case g220_hq => exact fun _ _ _ h => h); (case g220_hy => (refine Or.inl ⟨by rfl, ?_⟩; intro w hSw; (try dsimp only at hSw); go_simp; try with_reducible rfl)); try simp only [Act.put, List.setIfInBounds_toArray, List.set_cons_zero, List.set_cons_succ]))
                ((refine wpAnyH_take (i := 11) (oi := ?g221_o) (v := ?g221_v) ?g221_hi (by kernel_rfl) (by kernel_rfl) (by kernel_rfl) ?g221_hq ?g221_hy (by assumption) ?g221_gr; (case g221_hi => (simp only [List.getElem?_toArray, List.getElem?_cons_succ, List.getElem?_cons_zero]; rfl)); (case g221_hq => exact fun _ _ _ h => h); (case g221_hy => (refine Or.inl ⟨by rfl, ?_⟩; intro w hSw; (try dsimp only at hSw); go_simp; try with_reducible rfl)); try simp only [Act.put, List.setIfInBounds_toArray, List.set_cons_zero, List.set_cons_succ]))
                ((refine wpAnyH_take (i := 12) (oi := ?g222_o) (v := ?g222_v) ?g222_hi (by kernel_rfl) (by kernel_rfl) (by kernel_rfl) ?g222_hq ?g222_hy (by assumption) ?g222_gr; (case g222_hi => (simp only [List.getElem?_toArray, List.getElem?_cons_succ, List.getElem?_cons_zero]; rfl)); (case g222_hq => exact fun _ _ _ h => h); (case g222_hy => (refine Or.inl ⟨by rfl, ?_⟩; intro w hSw; (try dsimp only at hSw); go_simp; try with_reducible rfl)); try simp only [Act.put, List.setIfInBounds_toArray, List.set_cons_zero, List.set_cons_succ]))
                (refine wpAnyH_ready (rs := [8]) (by kernel_rfl) (by simp) ?_; refine AllReadyH.cons (o := ?g223_o) ?g223_hi (fun K hK => ?_) AllReadyH.nil; (case g223_hi => (simp only [List.getElem?_toArray, List.getElem?_cons_succ, List.getElem?_cons_zero]; rfl)); go_simp; refine (S1.out _).mono ?_; rintro e w8 ⟨rfl, hb8⟩; go_wp2_with fail; refine hK.out _ _ (pr_of (by (with_reducible (repeat' (first | exact Ext.refl _ | assumption | refine Ext.drew ?_ | refine Ext.drewN ?_ _ | refine Ext.alloc ?_ _ | refine Ext.setCell ?_ ?_ _ | refine Ext.trans ?_ (by assumption)))); all_goals (first | (simp; done) | (simp; omega)))) (fun hHeld => ?_); clear hK K; try simp only [Act.put, List.setIfInBounds_toArray, List.set_cons_zero, List.set_cons_succ])
                ((refine wpAnyH_take (i := 13) (oi := ?g224_o) (v := ?g224_v) ?g224_hi (by kernel_rfl) (by kernel_rfl) (by kernel_rfl) ?g224_hq ?g224_hy (by assumption) ?g224_gr; (case g224_hi => (simp only [List.getElem?_toArray, List.getElem?_cons_succ, List.getElem?_cons_zero]; rfl)); (case g224_hq => exact fun _ _ _ h => h); (case g224_hy => (refine Or.inl ⟨by rfl, ?_⟩; intro w hSw; (try dsimp only at hSw); go_simp; try with_reducible rfl)); try simp only [Act.put, List.setIfInBounds_toArray, List.set_cons_zero, List.set_cons_succ]))
                ((refine wpAnyH_take (i := 14) (oi := ?g225_o) (v := ?g225_v) ?g225_hi (by kernel_rfl) (by kernel_rfl) (by kernel_rfl) ?g225_hq ?g225_hy (by assumption) ?g225_gr; (case g225_hi => (simp only [List.getElem?_toArray, List.getElem?_cons_succ, List.getElem?_cons_zero]; rfl)); (case g225_hq => exact fun _ _ _ h => h); (case g225_hy => (refine Or.inl ⟨by rfl, ?_⟩; intro w hSw; (try dsimp only at hSw); go_simp; try with_reducible rfl)); try simp only [Act.put, List.setIfInBounds_toArray, List.set_cons_zero, List.set_cons_succ]))
                ((refine wpAnyH_take (i := 15) (oi := ?g226_o) (v := ?g226_v) ?g226_hi (by kernel_rfl) (by kernel_rfl) (by kernel_rfl) ?g226_hq ?g226_hy (by assumption) ?g226_gr; (case g226_hi => (simp only [List.getElem?_toArray, List.getElem?_cons_succ, List.getElem?_cons_zero]; rfl)); (case g226_hq => exact fun _ _ _ h => h); (case g226_hy => (refine Or.inl ⟨by rfl, ?_⟩; intro w hSw; (try dsimp only at hSw); go_simp; try with_reducible rfl)); try simp only [Act.put, List.setIfInBounds_toArray, List.set_cons_zero, List.set_cons_succ]))
                refine wpAnyH_done (by kernel_rfl) ?_ _
                have hx8 := hHeld.2
                go_wp2_with fail
                go_roundw
                case rel => exact ⟨m + 1, by omega, by go_num, by rw [HBS.out]; rfl, HXd6.out.trans hx8⟩
                case measure => simp [intOf]; omega
              · rw [hbm] at HBS
                clear hbm
                go_wp2_with fail
                refine wp_region_held_drew (S := (fun W => (∀ b o, b < wr.heap.size → W.cell? ⟨b, o, none⟩ = wr.cell? ⟨b, o, none⟩) ∧ Ext wr W)) (by kernel_rfl) (by first | with_reducible exact pr_start _ | exact pr_of (by (with_reducible (repeat' (first | exact Ext.refl _ | assumption | refine Ext.drew ?_ | refine Ext.drewN ?_ _ | refine Ext.alloc ?_ _ | refine Ext.setCell ?_ ?_ _ | refine Ext.trans ?_ (by assumption)))); all_goals (first | (simp; done) | (simp; omega)))) (fun hHeld => ?_)
                ((refine wpAnyH_take (i := 0) (oi := ?g227_o) (v := ?g227_v) ?g227_hi (by kernel_rfl) (by kernel_rfl) (by kernel_rfl) ?g227_hq ?g227_hy (by assumption) ?g227_gr; (case g227_hi => (simp only [List.getElem?_toArray, List.getElem?_cons_zero]; rfl)); (case g227_hq => exact fun _ _ _ h => h); (case g227_hy => (refine Or.inl ⟨by rfl, ?_⟩; intro w hSw; (try dsimp only at hSw); go_simp; try with_reducible rfl)); try simp only [Act.put, List.setIfInBounds_toArray, List.set_cons_zero, List.set_cons_succ]))
                ((refine wpAnyH_take (i := 1) (oi := ?g228_o) (v := ?g228_v) ?g228_hi (by kernel_rfl) (by kernel_rfl) (by kernel_rfl) ?g228_hq ?g228_hy (by assumption) ?g228_gr; (case g228_hi => (simp only [List.getElem?_toArray, List.getElem?_cons_succ, List.getElem?_cons_zero]; rfl)); (case g228_hq => exact fun _ _ _ h => h); (case g228_hy => (refine Or.inl ⟨by rfl, ?_⟩; intro w hSw; (try dsimp only at hSw); go_simp; try with_reducible rfl)); try simp only [Act.put, List.setIfInBounds_toArray, List.set_cons_zero, List.set_cons_succ]))
                ((refine wpAnyH_take (i := 2) (oi := ?g229_o) (v := undef) ?g229_hi (by kernel_rfl) (by kernel_rfl) (by kernel_rfl) ?g229_hq ?g229_hy (by assumption) ?g229_gr; (case g229_hi => (simp only [List.getElem?_toArray, List.getElem?_cons_succ, List.getElem?_cons_zero]; rfl)); (case g229_hq => exact fun _ _ _ h => h); (case g229_hy => exact Or.inr ⟨by rfl, rfl⟩); try simp only [Act.put, List.setIfInBounds_toArray, List.set_cons_zero, List.set_cons_succ]))
                ((refine wpAnyH_take (i := 3) (oi := ?g230_o) (v := undef) ?g230_hi (by kernel_rfl) (by kernel_rfl) (by kernel_rfl) ?g230_hq ?g230_hy (by assumption) ?g230_gr; (case g230_hi => (simp only [List.getElem?_toArray, List.getElem?_cons_succ, List.getElem?_cons_zero]; rfl)); (case g230_hq => exact fun _ _ _ h => h); (case g230_hy => exact Or.inr ⟨by rfl, rfl⟩); try simp only [Act.put, List.setIfInBounds_toArray, List.set_cons_zero, List.set_cons_succ]))
                ((refine wpAnyH_take (i := 4) (oi := ?g231_o) (v := undef) ?g231_hi (by kernel_rfl) (by kernel_rfl) (by kernel_rfl) ?g231_hq ?g231_hy (by assumption) ?g231_gr; (case g231_hi => (simp only [List.getElem?_toArray, List.getElem?_cons_succ, List.getElem?_cons_zero]; rfl)); (case g231_hq => exact fun _ _ _ h => h); (case g231_hy => exact Or.inr ⟨by rfl, rfl⟩); try simp only [Act.put, List.setIfInBounds_toArray, List.set_cons_zero, List.set_cons_succ]))
                ((refine wpAnyH_take (i := 5) (oi := ?g232_o) (v := undef) ?g232_hi (by kernel_rfl) (by kernel_rfl) (by kernel_rfl) ?g232_hq ?g232_hy (by assumption) ?g232_gr; (case g232_hi => (simp only [List.getElem?_toArray, List.getElem?_cons_succ, List.getElem?_cons_zero]; rfl)); (case g232_hq => exact fun _ _ _ h => h); (case g232_hy => exact Or.inr ⟨by rfl, rfl⟩); try simp only [Act.put, List.setIfInBounds_toArray, List.set_cons_zero, List.set_cons_succ]))
                ((refine wpAnyH_take (i := 6) (oi := ?g233_o) (v := undef) ?g233_hi (by kernel_rfl) (by kernel_rfl) (by kernel_rfl) ?g233_hq ?g233_hy (by assumption) ?g233_gr; (case g233_hi => (simp only [List.getElem?_toArray, List.getElem?_cons_succ, List.getElem?_cons_zero]; rfl)); (case g233_hq => exact fun _ _ _ h => h); (case g233_hy => exact Or.inr ⟨by rfl, rfl⟩); try simp only [Act.put, List.setIfInBounds_toArray, List.set_cons_zero, List.set_cons_succ]))
                ((refine wpAnyH_take (i := 7) (oi := ?g234_o) (v := undef) ?g234_hi (by kernel_rfl) (by kernel_rfl) (by kernel_rfl) ?g234_hq ?g234_hy (by assumption) ?g234_gr; (case g234_hi => (simp only [List.getElem?_toArray, List.getElem?_cons_succ, List.getElem?_cons_zero]; rfl)); (case g234_hq => exact fun _ _ _ h => h); (case g234_hy => exact Or.inr ⟨by rfl, rfl⟩); try simp only [Act.put, List.setIfInBounds_toArray, List.set_cons_zero, List.set_cons_succ]))
                ((refine wpAnyH_take (i := 8) (oi := ?g235_o) (v := undef) ?g235_hi (by kernel_rfl) (by kernel_rfl) (by kernel_rfl) ?g235_hq ?g235_hy (by assumption) ?g235_gr; (case g235_hi => (simp only [List.getElem?_toArray, List.getElem?_cons_succ, List.getElem?_cons_zero]; rfl)); (case g235_hq => exact fun _ _ _ h => h); (case g235_hy => exact Or.inr ⟨by rfl, rfl⟩); try simp only [Act.put, List.setIfInBounds_toArray, List.set_cons_zero, List.set_cons_succ]))
                ((refine wpAnyH_take (i := 9) (oi := ?g236_o) (v := undef) ?g236_hi (by kernel_rfl) (by kernel_rfl) (by kernel_rfl) ?g236_hq ?g236_hy (by assumption) ?g236_gr; (case g236_hi => (simp only [List.getElem?_toArray, List.getElem?_cons_succ, List.getElem?_cons_zero]; rfl)); (case g236_hq => exact fun _ _ _ h => h); (case g236_hy => exact Or.inr ⟨by rfl, rfl⟩); try simp only [Act.put, List.setIfInBounds_toArray, List.set_cons_zero, List.set_cons_succ]))
                ((refine wpAnyH_take (i := 10) (oi := ?g237_o) (v := undef) ?g237_hi (by kernel_rfl) (by kernel_rfl) (by kernel_rfl) ?g237_hq ?g237_hy (by assumption) ?g237_gr; (case g237_hi => (simp only [List.getElem?_toArray, List.getElem?_cons_succ, List.getElem?_cons_zero]; rfl)); (case g237_hq => exact fun _ _ _ h => h); (case g237_hy => exact Or.inr ⟨by rfl, rfl⟩); try simp only [Act.put, List.setIfInBounds_toArray, List.set_cons_zero, List.set_cons_succ]))
                ((refine wpAnyH_take (i := 11) (oi := ?g238_o) (v := undef) ?g238_hi (by kernel_rfl) (by kernel_rfl) (by kernel_rfl) ?g238_hq ?g238_hy (by assumption) ?g238_gr; (case g238_hi => (simp only [List.getElem?_toArray, List.getElem?_cons_succ, List.getElem?_cons_zero]; rfl)); (case g238_hq => exact fun _ _ _ h => h); (case g238_hy => exact Or.inr ⟨by rfl, rfl⟩); try simp only [Act.put, List.setIfInBounds_toArray, List.set_cons_zero, List.set_cons_succ]))
                ((refine wpAnyH_take (i := 12) (oi := ?g239_o) (v := undef) ?g239_hi (by kernel_rfl) (by kernel_rfl) (by kernel_rfl) ?g239_hq ?g239_hy (by assumption) ?g239_gr; (case g239_hi => (simp only [List.getElem?_toArray, List.getElem?_cons_succ, List.getElem?_cons_zero]; rfl)); (case g239_hq => exact fun _ _ _ h => h); (case g239_hy => exact Or.inr ⟨by rfl, rfl⟩); try simp only [Act.put, List.setIfInBounds_toArray, List.set_cons_zero, List.set_cons_succ]))
                ((refine wpAnyH_take (i := 13) (oi := ?g240_o) (v := undef) ?g240_hi (by kernel_rfl) (by kernel_rfl) (by kernel_rfl) ?g240_hq ?g240_hy (by assumption) ?g240_gr; (case g240_hi => (simp only [List.getElem?_toArray, List.getElem?_cons_succ, List.getElem?_cons_zero]; rfl)); (case g240_hq => exact fun _ _ _ h => h); (case g240_hy => exact Or.inr ⟨by rfl, rfl⟩); try simp only [Act.put, List.setIfInBounds_toArray, List.set_cons_zero, List.set_cons_succ]))
                ((refine wpAnyH_take (i := 14) (oi := ?g241_o) (v := ?g241_v) ?g241_hi (by kernel_rfl) (by kernel_rfl) (by kernel_rfl) ?g241_hq ?g241_hy (by assumption) ?g241_gr; (case g241_hi => (simp only [List.getElem?_toArray, List.getElem?_cons_succ, List.getElem?_cons_zero]; rfl)); (case g241_hq => exact fun _ _ _ h => h); (case g241_hy => (refine Or.inl ⟨by rfl, ?_⟩; intro w hSw; (try dsimp only at hSw); go_simp; try with_reducible rfl)); try simp only [Act.put, List.setIfInBounds_toArray, List.set_cons_zero, List.set_cons_succ]))
                ((refine wpAnyH_take (i := 15) (oi := ?g242_o) (v := ?g242_v) ?g242_hi (by kernel_rfl) (by kernel_rfl) (by kernel_rfl) ?g242_hq ?g242_hy (by assumption) ?g242_gr; (case g242_hi => (simp only [List.getElem?_toArray, List.getElem?_cons_succ, List.getElem?_cons_zero]; rfl)); (case g242_hq => exact fun _ _ _ h => h); (case g242_hy => (refine Or.inl ⟨by rfl, ?_⟩; intro w hSw; (try dsimp only at hSw); go_simp; try with_reducible rfl)); try simp only [Act.put, List.setIfInBounds_toArray, List.set_cons_zero, List.set_cons_succ]))
                refine wpAnyH_done (by kernel_rfl) ?_ _
                have hx8 := hHeld.2
                go_wp2_with fail
                go_roundw
                case rel => exact ⟨m + 1, by omega, by go_num, by rw [HBS.out]; rfl, HXd6.out.trans hx8⟩
                case measure => simp [intOf]; omega
            · obtain rfl : m = 4 := by omega
              rw [HB.out]
              have B0d := hide (B0r.out.ext HXd.out)
              have B1d := hide (B1r.out.ext HXd.out)
              have e2 := (HXd.out.cell (p := ⟨pb, po + k * 2, none⟩) zpb).trans c0
              have e3 := (HXd.out.cell (p := ⟨pb, po + k * 2 + 1, none⟩) zpb).trans c1
              have zpd := Nat.lt_of_lt_of_le zpb HXd.out.size
              have H4d := hide (fun w' (hx : Ext wr w') => H4u.out w' (HXd.out.trans hx))
              clear q0 q1 q2 qz r0 r1 r2 r3 rz c0 c1 cc cc6 q26 zpb zab2 hext H4u hjk hk0
              have q0 := B0d.out.at 0 rfl; have q1 := B0d.out.at 1 rfl; have q2 := B0d.out.at 2 rfl; have qz := B0d.out.lt
              have r0 := B1d.out.at 0 rfl; have r1 := B1d.out.at 1 rfl; have r2 := B1d.out.at 2 rfl; have r3 := B1d.out.at 3 rfl; have rz := B1d.out.lt
              have j2 : (k : Int) < (q.length : Int) := by omega
              go_wp2_with fail
              refine wp_region_held_drew (S := (fun W => (∀ b o, b < wr.heap.size → W.cell? ⟨b, o, none⟩ = wr.cell? ⟨b, o, none⟩) ∧ Ext wr W)) (by kernel_rfl) (by first | with_reducible exact pr_start _ | exact pr_of (by (with_reducible (repeat' (first | exact Ext.refl _ | assumption | refine Ext.drew ?_ | refine Ext.drewN ?_ _ | refine Ext.alloc ?_ _ | refine Ext.setCell ?_ ?_ _ | refine Ext.trans ?_ (by assumption)))); all_goals (first | (simp; done) | (simp; omega)))) (fun hHeld => ?_)
              ((refine wpAnyH_take (i := 0) (oi := ?g243_o) (v := ?g243_v) ?g243_hi (by kernel_rfl) (by kernel_rfl) (by kernel_rfl) ?g243_hq ?g243_hy (by assumption) ?g243_gr; (case g243_hi => (simp only [List.getElem?_toArray, List.getElem?_cons_zero]; rfl)); (case g243_hq => exact fun _ _ _ h => h); (case g243_hy => (refine Or.inl ⟨by rfl, ?_⟩; intro w hSw; (try dsimp only at hSw); go_simp; try with_reducible rfl)); try simp only [Act.put, List.setIfInBounds_toArray, List.set_cons_zero, List.set_cons_succ]))
              ((refine wpAnyH_take (i := 1) (oi := ?g244_o) (v := ?g244_v) ?g244_hi (by kernel_rfl) (by kernel_rfl) (by kernel_rfl) ?g244_hq ?g244_hy (by assumption) ?g244_gr; (case g244_hi => (simp only [List.getElem?_toArray, List.getElem?_cons_succ, List.getElem?_cons_zero]; rfl)); (case g244_hq => exact fun _ _ _ h => h); (case g244_hy => (refine Or.inl ⟨by rfl, ?_⟩; intro w hSw; (try dsimp only at hSw); go_simp; try with_reducible rfl)); try simp only [Act.put, List.setIfInBounds_toArray, List.set_cons_zero, List.set_cons_succ]))
              ((refine wpAnyH_take (i := 2) (oi := ?g245_o) (v := ?g245_v) ?g245_hi (by kernel_rfl) (by kernel_rfl) (by kernel_rfl) ?g245_hq ?g245_hy (by assumption) ?g245_gr; (case g245_hi => (simp only [List.getElem?_toArray, List.getElem?_cons_succ, List.getElem?_cons_zero]; rfl)); (case g245_hq => exact fun _ _ _ h => h); (case g245_hy => (refine Or.inl ⟨by rfl, ?_⟩; intro w hSw; (try dsimp only at hSw); go_simp; try with_reducible rfl)); try simp only [Act.put, List.setIfInBounds_toArray, List.set_cons_zero, List.set_cons_succ]))
              ((refine wpAnyH_take (i := 3) (oi := ?g246_o) (v := ?g246_v) ?g246_hi (by kernel_rfl) (by kernel_rfl) (by kernel_rfl) ?g246_hq ?g246_hy (by assumption) ?g246_gr; (case g246_hi => (simp only [List.getElem?_toArray, List.getElem?_cons_succ, List.getElem?_cons_zero]; rfl)); (case g246_hq => exact fun _ _ _ h => h); (case g246_hy => (refine Or.inl ⟨by rfl, ?_⟩; intro w hSw; (try dsimp only at hSw); go_simp; try with_reducible rfl)); try simp only [Act.put, List.setIfInBounds_toArray, List.set_cons_zero, List.set_cons_succ]))
              ((refine wpAnyH_take (i := 4) (oi := ?g247_o) (v := ?g247_v) ?g247_hi (by kernel_rfl) (by kernel_rfl) (by kernel_rfl) ?g247_hq ?g247_hy (by assumption) ?g247_gr; (case g247_hi => (simp only [List.getElem?_toArray, List.getElem?_cons_succ, List.getElem?_cons_zero]; rfl)); (case g247_hq => exact fun _ _ _ h => h); (case g247_hy => (refine Or.inl ⟨by rfl, ?_⟩; intro w hSw; (try dsimp only at hSw); go_simp; try with_reducible rfl)); try simp only [Act.put, List.setIfInBounds_toArray, List.set_cons_zero, List.set_cons_succ]))
              ((refine wpAnyH_take (i := 5) (oi := ?g248_o) (v := ?g248_v) ?g248_hi (by kernel_rfl) (by kernel_rfl) (by kernel_rfl) ?g248_hq ?g248_hy (by assumption) ?g248_gr; (case g248_hi => (simp only [List.getElem?_toArray, List.getElem?_cons_succ, List.getElem?_cons_zero]; rfl)); (case g248_hq => exact fun _ _ _ h => h); (case g248_hy => (refine Or.inl ⟨by rfl, ?_⟩; intro w hSw; (try dsimp only at hSw); go_simp; try with_reducible rfl)); try simp only [Act.put, List.setIfInBounds_toArray, List.set_cons_zero, List.set_cons_succ]))
              ((refine wpAnyH_take (i := 6) (oi := ?g249_o) (v := ?g249_v) ?g249_hi (by kernel_rfl) (by kernel_rfl) (by kernel_rfl) ?g249_hq ?g249_hy (by assumption) ?g249_gr; (case g249_hi => (simp only [List.getElem?_toArray, List.getElem?_cons_succ, List.getElem?_cons_zero]; rfl)); (case g249_hq => exact fun _ _ _ h => h); (case g249_hy => (refine Or.inl ⟨by rfl, ?_⟩; intro w hSw; (try dsimp only at hSw); go_simp; try with_reducible rfl)); try simp only [Act.put, List.setIfInBounds_toArray, List.set_cons_zero, List.set_cons_succ]))
              ((refine wpAnyH_take (i := 8) (oi := ?g250_o) (v := ?g250_v) ?g250_hi (by kernel_rfl) (by kernel_rfl) (by kernel_rfl) ?g250_hq ?g250_hy (by assumption) ?g250_gr; (case g250_hi => (simp only [List.getElem?_toArray, List.getElem?_cons_succ, List.getElem?_cons_zero]; rfl)); (case g250_hq => exact fun _ _ _ h => h); (case g250_hy => (refine Or.inl ⟨by rfl, ?_⟩; intro w hSw; (try dsimp only at hSw); go_simp; try with_reducible rfl)); try simp only [Act.put, List.setIfInBounds_toArray, List.set_cons_zero, List.set_cons_succ]))
              (refine wpAnyH_ready (rs := [7]) (by kernel_rfl) (by simp) ?_; refine AllReadyH.cons (o := ?g251_o) ?g251_hi (fun K hK => ?_) AllReadyH.nil; (case g251_hi => (simp only [List.getElem?_toArray, List.getElem?_cons_succ, List.getElem?_cons_zero]; rfl)); go_simp; refine (H4d.out _ (by (with_reducible (repeat' (first | exact Ext.refl _ | assumption | refine Ext.drew ?_ | refine Ext.drewN ?_ _ | refine Ext.alloc ?_ _ | refine Ext.setCell ?_ ?_ _ | refine Ext.trans ?_ (by assumption)))); all_goals (first | (simp; done) | (simp; omega)))).mono ?_; rintro e w8 ⟨rfl, hb8⟩; go_wp2_with fail; refine hK.out _ _ (pr_of (by (with_reducible (repeat' (first | exact Ext.refl _ | assumption | refine Ext.drew ?_ | refine Ext.drewN ?_ _ | refine Ext.alloc ?_ _ | refine Ext.setCell ?_ ?_ _ | refine Ext.trans ?_ (by assumption)))); all_goals (first | (simp; done) | (simp; omega)))) (fun hHeld => ?_); clear hK K; try simp only [Act.put, List.setIfInBounds_toArray, List.set_cons_zero, List.set_cons_succ])
              ((refine wpAnyH_take (i := 9) (oi := ?g252_o) (v := ?g252_v) ?g252_hi (by kernel_rfl) (by kernel_rfl) (by kernel_rfl) ?g252_hq ?g252_hy (by assumption) ?g252_gr; (case g252_hi => (simp only [List.getElem?_toArray, List.getElem?_cons_succ, List.getElem?_cons_zero]; rfl)); (case g252_hq => exact fun _ _ _ h => h); (case g252_hy => (refine Or.inl ⟨by rfl, ?_⟩; intro w hSw; (try dsimp only at hSw); go_simp; try with_reducible rfl)); try simp only [Act.put, List.setIfInBounds_toArray, List.set_cons_zero, List.set_cons_succ]))
              refine wpAnyH_done (by kernel_rfl) ?_ _
              have hx8 := hHeld.2
              go_wp2_with fail
              go_roundw
              case rel => exact END.out _ (HXd.out.trans hx8)
              case measure => simp [intOf]; omega
      · obtain rfl : k = q.length := by omega
        have hs : sumAt far q q.length = ft := by
          obtain ⟨j, hj⟩ : ∃ j, q.length = j + 1 := ⟨q.length - 1, by omega⟩
          have hl := HW.out.last
          rw [hj, Nat.add_sub_cancel] at hl
          rw [hj]
          show far (q.getD j 0) = ft
          rw [List.getD_eq_getElem?_getD, hl]
          exact HFT.out
        rw [hs]
        clear hs
        go_wp2_with (go_at_call 34; refine (awake08_any _).mono ?_; rintro e w9 ⟨rfl, hb9⟩)
        go_ret
        exact ⟨rfl, (HX5.out.trans HXr.out).trans hb9⟩
  · obtain ⟨pa, pcap, rfl⟩ := hRq.slice
    rw [List.length_map]
    clear hRq
    have q0 := B0.out.at 0 rfl; have q1 := B0.out.at 1 rfl; have q2 := B0.out.at 2 rfl; have qz := B0.out.lt
    have r0 := B1.out.at 0 rfl; have r1 := B1.out.at 1 rfl; have r2 := B1.out.at 2 rfl; have r3 := B1.out.at 3 rfl; have rz := B1.out.lt
    have u0 := B2.out.at 0 rfl; have u1 := B2.out.at 1 rfl; have u2 := B2.out.at 2 rfl; have u3 := B2.out.at 3 rfl; have uz := B2.out.lt
    go_wp2_with fail
    refine (H4.out _ g cg _ far A3.out t HTB.out).mono ?_
    rintro e w5 ⟨rfl, hb5⟩
    rw [hti, show infI = 18446744073709551615 from rfl]
    go_wp2_with (go_at_call 34; refine (awake08_any _).mono ?_; rintro e w9 ⟨rfl, hb9⟩)
    go_ret
    exact ⟨rfl, HX3.out.trans (by (with_reducible (repeat' (first | exact Ext.refl _ | assumption | refine Ext.drew ?_ | refine Ext.drewN ?_ _ | refine Ext.alloc ?_ _ | refine Ext.setCell ?_ ?_ _ | refine Ext.trans ?_ (by assumption)))); all_goals (first | (simp; done) | (simp; omega)))⟩

theorem floodWays_any {w : World} (W H : Int) (a : Option Addr) (l : List Int) (c : Nat) (bx byy bw bh fx fy tx ty : Int) (hr : Row16 w a l) (hu : U16s l) (itx : InI tx) (ity : InI ty) :
    Calls Try.prog 13 #[.agg #[.int .i64 W, .int .i64 H, .slice a l.length c], .agg #[.int .i64 bx, .int .i64 byy, .int .i64 bw, .int .i64 bh], .agg #[.int .i64 fx, .int .i64 fy, .int .i64 tx, .int .i64 ty]] w fun e w' => e = .returned (.bool true) ∧ Ext w w' := by
  by_cases hn : (l.length : Int) ≤ 150
  · by_cases h1 : lookE W H l.length bx byy bw bh fx fy = 0
    · cases h2 : hasB bx byy bw bh tx ty
      · exact fw_out c bx byy bw bh fx fy tx ty hr hu hn h1 h2 itx ity
      · exact fw_ok c bx byy bw bh fx fy tx ty hr hu hn h1 h2
    · exact fw_bad c bx byy bw bh fx fy tx ty hn h1
  · exact fw_far W H a l.length c bx byy bw bh fx fy tx ty hn
end Go.Proofs.Ytkonojjillcfiaa
