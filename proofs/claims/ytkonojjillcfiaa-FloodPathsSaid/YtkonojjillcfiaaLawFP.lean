/- The walk of FloodPaths. -/
import Derived.Test.YtkonojjillcfiaaPathR
import Derived.Test.YtkonojjillcfiaaLawFT
namespace Go.Proofs.Ytkonojjillcfiaa
open Go.RowKit

set_option maxRecDepth 100000 in
theorem fp_far {w : World} (W H : Int) (a : Option Addr) (n c : Nat) (bx byy bw bh fx fy tx ty : Int) (hn : ¬ (n : Int) ≤ 150) :
    Calls Try.prog 10 #[.agg #[.int .i64 W, .int .i64 H, .slice a n c], .agg #[.int .i64 bx, .int .i64 byy, .int .i64 bw, .int .i64 bh], .agg #[.int .i64 fx, .int .i64 fy, .int .i64 tx, .int .i64 ty]] w fun e w' => e = .returned (.bool true) ∧ Ext w w' := by
  have HS := hide (fun w' => small08_any W H a n c w')
  rw [show decide ((n : Int) ≤ 150) = false by simpa using hn] at HS
  clear hn
  go_enter Try.func10, Try.ntmps10
  go_wp2_with (first
    | (go_at_call 33; refine (HS.out _).mono ?_; rintro e w1 ⟨rfl, hb1⟩; obtain ⟨hc1, hf1⟩ := hb1.cells; have hz1 := hb1.size; (repeat (first | rw [World.size_alloc] at hz1 | rw [World.size_drew] at hz1)))
    | (go_at_call 34; refine (awake08_any _).mono ?_; rintro e w2 ⟨rfl, hb2⟩))
  go_ret
  exact ⟨rfl, (by (with_reducible (repeat' (first | exact Ext.refl _ | assumption | refine Ext.drew ?_ | refine Ext.drewN ?_ _ | refine Ext.alloc ?_ _ | refine Ext.setCell ?_ ?_ _ | refine Ext.trans ?_ (by assumption)))); all_goals (first | (simp; done) | (simp; omega)))⟩

set_option maxRecDepth 100000 in
theorem fp_bad {w : World} (W H : Int) (a : Option Addr) (n c : Nat) (bx byy bw bh fx fy tx ty : Int) (hn : (n : Int) ≤ 150) (iW : InI W) (iH : InI H) (ix : InI fx) (iy : InI fy) (he : lookE W H n bx byy bw bh fx fy ≠ 0) :
    Calls Try.prog 10 #[.agg #[.int .i64 W, .int .i64 H, .slice a n c], .agg #[.int .i64 bx, .int .i64 byy, .int .i64 bw, .int .i64 bh], .agg #[.int .i64 fx, .int .i64 fy, .int .i64 tx, .int .i64 ty]] w fun e w' => e = .returned (.bool true) ∧ Ext w w' := by
  have HS := hide (fun w' => small08_any W H a n c w')
  rw [show decide ((n : Int) ≤ 150) = true by simpa using hn] at HS
  have H1 := hide (fun (w' : World) => fPath_bad (w := w') W H a n c bx byy bw bh fx fy tx ty he)
  have H2 := hide (fun (w' : World) => r08May_any W H a n c bx byy bw bh fx fy w' iW iH ix iy)
  generalize lookE W H n bx byy bw bh fx fy = e1 at *
  have hb2 : (e1 == 0) = false := by simpa using he
  have hb3 : (e1 != 0) = true := by simpa using he
  have hb4 : (e1 == e1) = true := by simp
  clear he hn iW iH ix iy
  go_enter Try.func10, Try.ntmps10
  go_wp2_with (go_at_call 33; refine (HS.out _).mono ?_; rintro e w1 ⟨rfl, hb1⟩; obtain ⟨hc1, hf1⟩ := hb1.cells; have hz1 := hb1.size; (repeat (first | rw [World.size_alloc] at hz1 | rw [World.size_drew] at hz1)); have z1_0 : w.heap.size < w1.heap.size := (by omega); have z1_1 : w.heap.size + 1 < w1.heap.size := (by omega); have z1_2 : w.heap.size + 2 < w1.heap.size := (by omega))
  refine (H1.out _).mono ?_
  rintro e w2 ⟨rfl, hb2⟩
  obtain ⟨hc2, hf2⟩ := hb2.cells; have hz2 := hb2.size; (repeat (first | rw [World.size_alloc] at hz2 | rw [World.size_drew] at hz2)); have z2_0 : w.heap.size < w2.heap.size := (by omega); have z2_1 : w.heap.size + 1 < w2.heap.size := (by omega); have z2_2 : w.heap.size + 2 < w2.heap.size := (by omega)
  go_wp2_with fail
  refine (H2.out _).mono ?_
  rintro e w3 ⟨rfl, hb3⟩
  go_wp2_with (go_at_call 34; refine (awake08_any _).mono ?_; rintro e w6 ⟨rfl, hb6⟩)
  go_ret
  exact ⟨rfl, (by (with_reducible (repeat' (first | exact Ext.refl _ | assumption | refine Ext.drew ?_ | refine Ext.drewN ?_ _ | refine Ext.alloc ?_ _ | refine Ext.setCell ?_ ?_ _ | refine Ext.trans ?_ (by assumption)))); all_goals (first | (simp; done) | (simp; omega)))⟩

set_option maxRecDepth 100000 in
theorem fp_out {w : World} {W H : Int} {a : Option Addr} {l : List Int} (c : Nat) (bx byy bw bh fx fy tx ty : Int) (hn : (l.length : Int) ≤ 150) (iW : InI W) (iH : InI H) (ix : InI fx) (iy : InI fy) (itx : InI tx) (ity : InI ty) (he : lookE W H l.length bx byy bw bh fx fy = 0) (ht : hasB bx byy bw bh tx ty = false) :
    Calls Try.prog 10 #[.agg #[.int .i64 W, .int .i64 H, .slice a l.length c], .agg #[.int .i64 bx, .int .i64 byy, .int .i64 bw, .int .i64 bh], .agg #[.int .i64 fx, .int .i64 fy, .int .i64 tx, .int .i64 ty]] w fun e w' => e = .returned (.bool true) ∧ Ext w w' := by
  have HS := hide (fun w' => small08_any W H a l.length c w')
  rw [show decide ((l.length : Int) ≤ 150) = true by simpa using hn] at HS
  have H1 := hide (fun (w' : World) => fPath_out (w := w') W H a l.length c bx byy bw bh fx fy tx ty he ht)
  have H2 := hide (fun (w' : World) => r08May_any W H a l.length c bx byy bw bh fx fy w' iW iH ix iy)
  rw [he] at H2
  obtain ⟨hm, hl, hf, hh⟩ := lookE_ok.1 he
  have HHa := hide (fun (w' : World) => rHas_any bx byy bw bh tx ty w' (fitsR_true.1 hf).1 (fitsR_true.1 hf).2.1 itx ity)
  rw [ht] at HHa
  obtain ⟨n, hnn⟩ : ∃ n, l.length = n := ⟨_, rfl⟩
  rw [hnn] at HS H1 H2 ⊢
  clear he hn iW iH ix iy itx ity hm hl hf hh hnn ht
  go_enter Try.func10, Try.ntmps10
  go_wp2_with (go_at_call 33; refine (HS.out _).mono ?_; rintro e w1 ⟨rfl, hb1⟩; obtain ⟨hc1, hf1⟩ := hb1.cells; have hz1 := hb1.size; (repeat (first | rw [World.size_alloc] at hz1 | rw [World.size_drew] at hz1)); have z1_0 : w.heap.size < w1.heap.size := (by omega); have z1_1 : w.heap.size + 1 < w1.heap.size := (by omega); have z1_2 : w.heap.size + 2 < w1.heap.size := (by omega))
  refine (H1.out _).mono ?_
  rintro e w2 ⟨rfl, hb2⟩
  obtain ⟨hc2, hf2⟩ := hb2.cells; have hz2 := hb2.size; (repeat (first | rw [World.size_alloc] at hz2 | rw [World.size_drew] at hz2)); have z2_0 : w.heap.size < w2.heap.size := (by omega); have z2_1 : w.heap.size + 1 < w2.heap.size := (by omega); have z2_2 : w.heap.size + 2 < w2.heap.size := (by omega)
  go_wp2_with fail
  refine (H2.out _).mono ?_
  rintro e w3 ⟨rfl, hb3⟩
  obtain ⟨hc3, hf3⟩ := hb3.cells; have hz3 := hb3.size; (repeat (first | rw [World.size_alloc] at hz3 | rw [World.size_drew] at hz3)); have z3_0 : w.heap.size < w3.heap.size := (by omega); have z3_1 : w.heap.size + 1 < w3.heap.size := (by omega); have z3_2 : w.heap.size + 2 < w3.heap.size := (by omega)
  go_wp2_with (first
    | (go_at_call 41; refine (HHa.out _).mono ?_; rintro e w5 ⟨rfl, hb5⟩)
    | (go_at_call 34; refine (awake08_any _).mono ?_; rintro e w6 ⟨rfl, hb6⟩))
  go_ret
  exact ⟨rfl, (by (with_reducible (repeat' (first | exact Ext.refl _ | assumption | refine Ext.drew ?_ | refine Ext.drewN ?_ _ | refine Ext.alloc ?_ _ | refine Ext.setCell ?_ ?_ _ | refine Ext.trans ?_ (by assumption)))); all_goals (first | (simp; done) | (simp; omega)))⟩

set_option maxRecDepth 100000 in
set_option maxHeartbeats 1000000 in
theorem fp_ok {w : World} {W H : Int} {a : Option Addr} {l : List Int} (c : Nat) (bx byy bw bh fx fy tx ty : Int) (hr : Row16 w a l) (hu : U16s l) (hn : (l.length : Int) ≤ 150) (iW : InI W) (iH : InI H) (ix : InI fx) (iy : InI fy) (itx : InI tx) (ity : InI ty) (he : lookE W H l.length bx byy bw bh fx fy = 0) (ht : hasB bx byy bw bh tx ty = true) :
    Calls Try.prog 10 #[.agg #[.int .i64 W, .int .i64 H, .slice a l.length c], .agg #[.int .i64 bx, .int .i64 byy, .int .i64 bw, .int .i64 bh], .agg #[.int .i64 fx, .int .i64 fy, .int .i64 tx, .int .i64 ty]] w fun e w' => e = .returned (.bool true) ∧ Ext w w' := by
  have HS := hide (fun w' => small08_any W H a l.length c w')
  rw [show decide ((l.length : Int) ≤ 150) = true by simpa using hn] at HS
  have lp := landP_of he hu
  have LP := hide lp
  have H1 := hide (fun (w' : World) (hx : Ext w w') => fPath_uni c tx ty he (hr.ext hx) hu ht)
  have H2 := hide (fun (w' : World) => r08May_any W H a l.length c bx byy bw bh fx fy w' iW iH ix iy)
  have H3 := hide (fun (w' : World) (hx : Ext w w') (D : Nat → Int) (F : IsFar (mapNet (landP_of he hu)) (idxN W (fx, fy)) D) => rFar_any c he (hr.ext hx) hu F)
  have H4 := hide (fun (w' : World) (hx : Ext w w') (far : Nat → Int) (F : IsFar (mapNet (landP_of he hu)) (idxN W (fx, fy)) far) (FL : FarLow (mapNet (landP_of he hu)) far) (base g cg : Nat) (fa : FarAt w' base g cg far l.length) (t : Nat) (ht : far t < infI) (p : List Nat) (hp : BackP (mapNet (landP_of he hu)) far t p) => rPath_any c he (hr.ext hx) hu F FL fa ht hp)
  rw [he] at H2
  obtain ⟨hm, hl, hf, hh⟩ := lookE_ok.1 he
  have HHa := hide (fun (w' : World) => rHas_any bx byy bw bh tx ty w' (fitsR_true.1 hf).1 (fitsR_true.1 hf).2.1 itx ity)
  rw [ht] at HHa
  have it := lp.in_ ht
  have is_ := lp.in_ hh
  have htn := lp.idx_lt it
  have wh := lp.wh
  have n1 : 1 ≤ l.length := by omega
  have m0 := mul_bd (a := ty) (b := W) (A := 256) (B := 256) (by omega) (by omega) (by omega) (by omega)
  have hsi := idx_int (W := W) it.1 (by omega) it.2.2.1
  have k1 : IntKind.i64.wrap (ty * W) = ty * W := IntWalk.i64_in _ (by omega)
  have k2 : IntKind.i64.wrap (ty * W + tx) = ((idxN W (tx, ty) : Nat) : Int) := by rw [hsi]; exact IntWalk.i64_in _ (by omega)
  have hvx := vx_idx it.1 it.2.1 it.2.2.1
  have hvy := vy_idx it.1 it.2.1 it.2.2.1
  obtain ⟨G, hG⟩ : ∃ G, mapNet (landP_of he hu) = G := ⟨_, rfl⟩
  rw [hG] at H1 H3 H4
  obtain ⟨s, hs⟩ : ∃ s, idxN W (fx, fy) = s := ⟨_, rfl⟩
  rw [hs] at H1 H3 H4
  obtain ⟨t, htt⟩ : ∃ t, idxN W (tx, ty) = t := ⟨_, rfl⟩
  rw [htt] at H1 htn k2 hvx hvy
  have HVX := hide (And.intro hvx hvy)
  have H5 := hide (fun (w' : World) (va vb : Value) (q : List Nat) (hq : 0 < q.length) (hql : q.length ≤ l.length) (ha : Reads cellE w' va (q.map (cellV W))) (hb : Reads cellE w' vb (q.map (cellV W))) => cells08_any (w := w') (by rw [List.length_map]; omega) (by rw [List.length_map]; exact hq) ha hb)
  obtain ⟨n, hnn⟩ : ∃ n, l.length = n := ⟨_, rfl⟩
  rw [hnn] at HS H1 H2 H3 H4 H5 htn wh n1 ⊢
  clear he hn iW iH ix iy itx ity hm hl hf hh hnn ht hr hu hG hs htt m0 hsi it is_ hvx hvy lp LP
  go_enter Try.func10, Try.ntmps10
  go_wp2_with (go_at_call 33; refine (HS.out _).mono ?_; rintro e w1 ⟨rfl, hb1⟩; obtain ⟨hc1, hf1⟩ := hb1.cells; have hz1 := hb1.size; (repeat (first | rw [World.size_alloc] at hz1 | rw [World.size_drew] at hz1)); have z1_0 : w.heap.size < w1.heap.size := (by omega); have z1_1 : w.heap.size + 1 < w1.heap.size := (by omega); have z1_2 : w.heap.size + 2 < w1.heap.size := (by omega))
  refine (H1.out _ (by (with_reducible (repeat' (first | exact Ext.refl _ | assumption | refine Ext.drew ?_ | refine Ext.drewN ?_ _ | refine Ext.alloc ?_ _ | refine Ext.setCell ?_ ?_ _ | refine Ext.trans ?_ (by assumption)))); all_goals (first | (simp; done) | (simp; omega)))).mono ?_
  rintro e w2 ⟨far, v, q, pc, ge, rfl, hb2, hRq, hql, F2, L2, hge⟩
  obtain ⟨hc2, hf2⟩ := hb2.cells; have hz2 := hb2.size; (repeat (first | rw [World.size_alloc] at hz2 | rw [World.size_drew] at hz2)); have z2_0 : w.heap.size < w2.heap.size := (by omega); have z2_1 : w.heap.size + 1 < w2.heap.size := (by omega); have z2_2 : w.heap.size + 2 < w2.heap.size := (by omega)
  have FF := hide F2
  have LL := hide L2
  have RQ := hide hRq
  have HQL := hide hql
  have GE := hide hge
  clear F2 L2 hRq hql hge
  go_wp2_with fail
  refine (H2.out _).mono ?_
  rintro e w3 ⟨rfl, hb3⟩
  obtain ⟨hc3, hf3⟩ := hb3.cells; have hz3 := hb3.size; (repeat (first | rw [World.size_alloc] at hz3 | rw [World.size_drew] at hz3)); have z3_0 : w.heap.size < w3.heap.size := (by omega); have z3_1 : w.heap.size + 1 < w3.heap.size := (by omega); have z3_2 : w.heap.size + 2 < w3.heap.size := (by omega)
  go_wp2_with fail
  refine (HHa.out _).mono ?_
  rintro e w4 ⟨rfl, hb4⟩
  obtain ⟨hc4, hf4⟩ := hb4.cells; have hz4 := hb4.size; (repeat (first | rw [World.size_alloc] at hz4 | rw [World.size_drew] at hz4)); have z4_0 : w.heap.size < w4.heap.size := (by omega); have z4_1 : w.heap.size + 1 < w4.heap.size := (by omega); have z4_2 : w.heap.size + 2 < w4.heap.size := (by omega)
  go_wp2_with fail
  refine (H3.out _ (by (with_reducible (repeat' (first | exact Ext.refl _ | assumption | refine Ext.drew ?_ | refine Ext.drewN ?_ _ | refine Ext.alloc ?_ _ | refine Ext.setCell ?_ ?_ _ | refine Ext.trans ?_ (by assumption)))); all_goals (first | (simp; done) | (simp; omega))) _ FF.out).mono ?_
  rintro e w5 ⟨v5, rfl, hb5, hv5⟩
  obtain ⟨hc5, hf5⟩ := hb5.cells; have hz5 := hb5.size; (repeat (first | rw [World.size_alloc] at hz5 | rw [World.size_drew] at hz5)); have z5_0 : w.heap.size < w5.heap.size := (by omega); have z5_1 : w.heap.size + 1 < w5.heap.size := (by omega); have z5_2 : w.heap.size + 2 < w5.heap.size := (by omega)
  obtain ⟨g, cg, rfl, A1⟩ := far_slice hv5 (by omega)
  have AA := hide A1
  have ft := (A1.cell htn).1
  have j1 : (t : Int) < (n : Int) := by omega
  have hgw := A1.lt.2
  clear hv5 A1
  obtain ⟨fw, hfw⟩ : ∃ z, far t = z := ⟨_, rfl⟩
  have HFW := hide hfw
  rw [hfw] at ft
  clear hfw
  rcases GE.out with ⟨rfl, hti, hpc, hB⟩ | ⟨rfl, hti, rfl, rfl⟩
  · rw [HFW.out] at hpc
    subst hpc
    have hq0 : 0 < q.length := by
      obtain ⟨r, hr⟩ := hB.head
      have := congrArg List.length hr
      simp at this
      omega
    have HB := hide hB
    have HTI := hide hti
    have hne : (pc == 18446744073709551615) = false := by
      have := HFW.out
      have e : infI = 18446744073709551615 := rfl
      simp
      omega
    have hee : (pc == pc) = true := by simp
    clear hB hti
    go_wp2_with fail
    have hx5 : Ext w w5 := (by (with_reducible (repeat' (first | exact Ext.refl _ | assumption | refine Ext.drew ?_ | refine Ext.drewN ?_ _ | refine Ext.alloc ?_ _ | refine Ext.setCell ?_ ?_ _ | refine Ext.trans ?_ (by assumption)))); all_goals (first | (simp; done) | (simp; omega)))
    have HX5 := hide hx5
    clear hx5
    have HP := H4.out w5 HX5.out far FF.out LL.out _ g cg AA.out t HTI.out _ HB.out
    rw [HVX.out.1, HVX.out.2] at HP
    refine HP.mono ?_
    rintro e w6 ⟨v6, rfl, hb6, hv6⟩
    rw [List.reverse_reverse] at hv6
    have HV6 := hide hv6
    clear hv6 HP
    go_wp2_with fail
    refine (H5.out _ _ _ q hq0 HQL.out (RQ.out.ext (by (with_reducible (repeat' (first | exact Ext.refl _ | assumption | refine Ext.drew ?_ | refine Ext.drewN ?_ _ | refine Ext.alloc ?_ _ | refine Ext.setCell ?_ ?_ _ | refine Ext.trans ?_ (by assumption)))); all_goals (first | (simp; done) | (simp; omega)))) HV6.out).mono ?_
    rintro e w7 ⟨rfl, hb7⟩
    go_wp2_with (go_at_call 34; refine (awake08_any _).mono ?_; rintro e w8 ⟨rfl, hb8⟩)
    go_ret
    exact ⟨rfl, (by (with_reducible (repeat' (first | exact Ext.refl _ | assumption | refine Ext.drew ?_ | refine Ext.drewN ?_ _ | refine Ext.alloc ?_ _ | refine Ext.setCell ?_ ?_ _ | refine Ext.trans ?_ (by assumption)))); all_goals (first | (simp; done) | (simp; omega)))⟩
  · have hf2 : fw = 18446744073709551615 := by rw [← HFW.out, hti]; rfl
    subst hf2
    obtain ⟨pa, pcap, rfl⟩ := RQ.out.slice
    rw [List.length_map]
    clear hti
    go_wp2_with (go_at_call 34; refine (awake08_any _).mono ?_; rintro e w8 ⟨rfl, hb8⟩)
    go_ret
    exact ⟨rfl, (by (with_reducible (repeat' (first | exact Ext.refl _ | assumption | refine Ext.drew ?_ | refine Ext.drewN ?_ _ | refine Ext.alloc ?_ _ | refine Ext.setCell ?_ ?_ _ | refine Ext.trans ?_ (by assumption)))); all_goals (first | (simp; done) | (simp; omega)))⟩

theorem floodPaths_any {w : World} (W H : Int) (a : Option Addr) (l : List Int) (c : Nat) (bx byy bw bh fx fy tx ty : Int) (hr : Row16 w a l) (hu : U16s l) (iW : InI W) (iH : InI H) (ix : InI fx) (iy : InI fy) (itx : InI tx) (ity : InI ty) :
    Calls Try.prog 10 #[.agg #[.int .i64 W, .int .i64 H, .slice a l.length c], .agg #[.int .i64 bx, .int .i64 byy, .int .i64 bw, .int .i64 bh], .agg #[.int .i64 fx, .int .i64 fy, .int .i64 tx, .int .i64 ty]] w fun e w' => e = .returned (.bool true) ∧ Ext w w' := by
  by_cases hn : (l.length : Int) ≤ 150
  · by_cases h1 : lookE W H l.length bx byy bw bh fx fy = 0
    · cases h2 : hasB bx byy bw bh tx ty
      · exact fp_out c bx byy bw bh fx fy tx ty hn iW iH ix iy itx ity h1 h2
      · exact fp_ok c bx byy bw bh fx fy tx ty hr hu hn iW iH ix iy itx ity h1 h2
    · exact fp_bad W H a l.length c bx byy bw bh fx fy tx ty hn iW iH ix iy h1
  · exact fp_far W H a l.length c bx byy bw bh fx fy tx ty hn
end Go.Proofs.Ytkonojjillcfiaa
