/- The walk of StarLeast. -/
import Derived.Test.YtifbmapianddcaaLawSLp
import Derived.Test.YtifbmapianddcaaAwake10
set_option linter.all false
set_option linter.unusedVariables false
set_option linter.unusedSimpArgs false
namespace Go.Proofs.Ytifbmapianddcaa
open Go.RowKit

set_option maxRecDepth 100000 in
theorem sl_far {w : World} (W H : Int) (a : Option Addr) (n c : Nat) (x y tx ty b : Int) (hn : ¬ (n : Int) ≤ 150) :
    Calls Try.prog 4 #[.agg #[.int .i64 W, .int .i64 H, .slice a n c], .agg #[.int .i64 x, .int .i64 y, .int .i64 tx, .int .i64 ty, .int .i64 b]] w fun e w' => e = .returned (.bool true) ∧ Ext w w' := by
  have HS := hide (fun w' => small10_any W H a n c w')
  rw [show decide ((n : Int) ≤ 150) = false by simpa using hn] at HS
  clear hn
  go_enter Try.func4, Try.ntmps4
  go_wp2_with (first
    | (go_at_call 15; refine (HS.out _).mono ?_; rintro e w1 ⟨rfl, hb1⟩; obtain ⟨hc1, hf1⟩ := hb1.cells; have hz1 := hb1.size; (repeat (first | rw [World.size_alloc] at hz1 | rw [World.size_drew] at hz1)))
    | (go_at_call 16; refine (awake10_any _).mono ?_; rintro e w2 ⟨rfl, hb2⟩))
  go_ret
  exact ⟨rfl, (by (with_reducible (repeat' (first | exact Ext.refl _ | assumption | refine Ext.drew ?_ | refine Ext.drewN ?_ _ | refine Ext.alloc ?_ _ | refine Ext.setCell ?_ ?_ _ | refine Ext.trans ?_ (by assumption)))); all_goals (first | (simp; done) | (simp; omega)))⟩

set_option maxRecDepth 100000 in
theorem sl_bad {w : World} {W H : Int} {a : Option Addr} {l : List Int} (c : Nat) (x y tx ty b : Int) (hr : Row16 w a l) (hu : U16s l) (hn : (l.length : Int) ≤ 150) (he : lookE W H l.length 0 0 W H x y ≠ 0) :
    Calls Try.prog 4 #[.agg #[.int .i64 W, .int .i64 H, .slice a l.length c], .agg #[.int .i64 x, .int .i64 y, .int .i64 tx, .int .i64 ty, .int .i64 b]] w fun e w' => e = .returned (.bool true) ∧ Ext w w' := by
  have HS := hide (fun w' => small10_any W H a l.length c w')
  rw [show decide ((l.length : Int) ≤ 150) = true by simpa using hn] at HS
  have H1 := hide (fun (w' : World) => fFrom_bad (w := w') W H a l.length c x y he)
  have H2 := hide (fun (w' : World) (hx : Ext w w') => sFind_uni (w := w') W H a c x y tx ty (l.length : Int) (hr.ext hx) hu)
  have HSB := hide (fun p cc k e (h : Srch W H l x y tx ty l.length p cc k e) => srch_bad h he (by omega))
  obtain ⟨e1, he1⟩ : ∃ z, lookE W H l.length 0 0 W H x y = z := ⟨_, rfl⟩
  rw [he1] at H1 HSB he
  obtain ⟨n, hnn⟩ : ∃ n, l.length = n := ⟨_, rfl⟩
  rw [hnn] at HS H1 H2 HSB ⊢
  have f1 : (e1 != 0) = true := by simpa using he
  have f2 : (e1 == e1) = true := by simp
  clear hn hr hu hnn he he1
  go_enter Try.func4, Try.ntmps4
  go_wp2_with (go_at_call 15; refine (HS.out _).mono ?_; rintro e w1 ⟨rfl, hb1⟩; obtain ⟨hc1, hf1⟩ := hb1.cells; have hz1 := hb1.size; (repeat (first | rw [World.size_alloc] at hz1 | rw [World.size_drew] at hz1)); have z1_0 : w.heap.size < w1.heap.size := (by omega); have z1_1 : w.heap.size + 1 < w1.heap.size := (by omega))
  refine (H1.out _).mono ?_
  rintro e w2 ⟨rfl, hb2⟩
  obtain ⟨hc2, hf2⟩ := hb2.cells; have hz2 := hb2.size; (repeat (first | rw [World.size_alloc] at hz2 | rw [World.size_drew] at hz2)); have z2_0 : w.heap.size < w2.heap.size := (by omega); have z2_1 : w.heap.size + 1 < w2.heap.size := (by omega)
  go_wp2_with fail
  refine (H2.out _ (by (with_reducible (repeat' (first | exact Ext.refl _ | assumption | refine Ext.drew ?_ | refine Ext.drewN ?_ _ | refine Ext.alloc ?_ _ | refine Ext.setCell ?_ ?_ _ | refine Ext.trans ?_ (by assumption)))); all_goals (first | (simp; done) | (simp; omega)))).mono ?_
  rintro e w3 ⟨hb3, p1, c1, k1, er, v1, hs1, rfl, ho1⟩
  obtain ⟨rfl, rfl⟩ := HSB.out _ _ _ _ hs1
  obtain ⟨ra, rc, hrv⟩ := ho1.slice
  simp only [List.map_nil, List.length_nil] at hrv
  subst hrv
  obtain ⟨hc3, hf3⟩ := hb3.cells; have hz3 := hb3.size; (repeat (first | rw [World.size_alloc] at hz3 | rw [World.size_drew] at hz3)); have z3_0 : w.heap.size < w3.heap.size := (by omega); have z3_1 : w.heap.size + 1 < w3.heap.size := (by omega)
  clear hs1 ho1
  go_wp2_with (go_at_call 16; refine (awake10_any _).mono ?_; rintro e w6 ⟨rfl, hb6⟩)
  go_ret
  exact ⟨rfl, (by (with_reducible (repeat' (first | exact Ext.refl _ | assumption | refine Ext.drew ?_ | refine Ext.drewN ?_ _ | refine Ext.alloc ?_ _ | refine Ext.setCell ?_ ?_ _ | refine Ext.trans ?_ (by assumption)))); all_goals (first | (simp; done) | (simp; omega)))⟩

theorem count_one10 (p : Nat → Bool) (k : Nat) : (List.range (k + 1)).countP p = (List.range k).countP p + if p k = true then 1 else 0 := by
  rw [List.range_succ, List.countP_append, List.countP_cons]
  simp

set_option maxRecDepth 100000 in
set_option maxHeartbeats 2000000 in
theorem sl_near {w : World} {W H : Int} {a : Option Addr} {l : List Int} (c : Nat) (x y tx ty b : Int) (hr : Row16 w a l) (hu : U16s l) (hn : (l.length : Int) ≤ 150) (he : lookE W H l.length 0 0 W H x y = 0) :
    Calls Try.prog 4 #[.agg #[.int .i64 W, .int .i64 H, .slice a l.length c], .agg #[.int .i64 x, .int .i64 y, .int .i64 tx, .int .i64 ty, .int .i64 b]] w fun e w' => e = .returned (.bool true) ∧ Ext w w' := by
  have HS := hide (fun w' => small10_any W H a l.length c w')
  rw [show decide ((l.length : Int) ≤ 150) = true by simpa using hn] at HS
  have H1 := hide (fun (w' : World) (hx : Ext w w') => fFrom_ok (w := w') c he (hr.ext hx) hu)
  have H2 := hide (fun (w' : World) (hx : Ext w w') => sFind_uni (w := w') W H a c x y tx ty (l.length : Int) (hr.ext hx) hu)
  have HLP := hide (landP_of he hu)
  have hck : checkE W H l.length = 0 := checkE_ok.2 ⟨HLP.out.may, HLP.out.len⟩
  have HM := hide HLP.out.may
  have wh := HLP.out.wh
  have hlen := HLP.out.len
  have hbx := HLP.out.in_ (lookE_ok.1 he).2.2.2
  have HIN := hide (fun (w' : World) => r10In_any W H tx ty w' HM.out)
  have HOUT := hide (fun p cc k e (h : Srch W H l x y tx ty l.length p cc k e) (ht : inB W H tx ty = false) => srch_out h hck ht)
  have HLEAST := hide (fun p cc k e D (h : Srch W H l x y tx ty l.length p cc k e) (F : IsFar (mapNet (landP_of he hu)) (idxN W (x, y)) D) (ht : inB W H tx ty = true) => srch_least (landP_of he hu) ⟨inB_true.2 (by omega), ht⟩ h F)
  have HGOOD := hide (fun s t p cc k (h : Told (mapNet (landP_of he hu)) s t p cc k) (hk : k ≤ 100000) => told_good (landP_of he hu) h hk)
  have HCOST := hide (fun s t p cc k (h : Told (mapNet (landP_of he hu)) s t p cc k) => told_cost (landP_of he hu) h)
  have HRC := hide (fun (w' : World) (hx : Ext w w') (pa : Option Addr) (p : List Cell) (pc : Nat) (h1 : RowC w' pa p) (h2 : p.length ≤ pc) (G : GoodPath W H l p) => rtCost_ok (w := w') c pc hck (hr.ext hx) hu h1 h2 G)
  have HRK := hide (fun (w' : World) (hx : Ext w w') (pa : Option Addr) (p : List Cell) (pc : Nat) (h1 : RowC w' pa p) (G : GoodPath W H l p) => rtCheck_ok (w := w') c pc hck (hr.ext hx) h1 G)
  have HR16 := hide hr
  have hn1 : 1 ≤ l.length := by have := HLP.out.idx_lt hbx; omega
  obtain ⟨G, hG⟩ : ∃ G, mapNet (landP_of he hu) = G := ⟨_, rfl⟩
  rw [hG] at H1 HLEAST HGOOD HCOST
  have hidx : ∀ v : Nat, idxN W (cellV W v) = v := fun v => idx_v wh.1 v
  have HCV : Hid (∀ X Y : Int, 0 ≤ X → X < W → 0 ≤ Y → cellV W (idxN W (X, Y)) = (X, Y)) := hide (fun X Y h1 h2 h3 => by unfold cellV; rw [vx_idx h1 h2 h3, vy_idx h1 h2 h3])
  obtain ⟨n, hnn⟩ : ∃ n, l.length = n := ⟨_, rfl⟩
  have HNN := hide hnn
  rw [hnn] at HS H1 H2 HOUT HLEAST HRC HRK hn hn1 hlen ⊢
  have HLEN := hide hlen
  have HBX := hide hbx
  clear hr hu he hnn hG hck HLP hidx hlen hbx
  go_enter Try.func4, Try.ntmps4
  go_wp2_with (go_at_call 15; refine (HS.out _).mono ?_; rintro e w1 ⟨rfl, hb1⟩; obtain ⟨hc1, hf1⟩ := hb1.cells; have hz1 := hb1.size; (repeat (first | rw [World.size_alloc] at hz1 | rw [World.size_drew] at hz1)); have z1_0 : w.heap.size < w1.heap.size := (by omega); have z1_1 : w.heap.size + 1 < w1.heap.size := (by omega))
  have BF1 : Hid (Blk w1 (w.heap.size) 26 #[.int .i64 W, .int .i64 H, .slice a n c]) := hide (by refine Blk.ext ?_ hb1; (repeat' (first | exact Blk.new_ (by simp) | refine Blk.drew ?_ | refine Blk.over ?_)))
  have BE1 : Hid (Blk w1 (w.heap.size + 1) 30 #[.int .i64 x, .int .i64 y, .int .i64 tx, .int .i64 ty, .int .i64 b]) := hide (by refine Blk.ext ?_ hb1; (repeat' (first | exact Blk.new_ (by simp) | refine Blk.drew ?_ | refine Blk.over ?_)))
  refine (H1.out _ (by (with_reducible (repeat' (first | exact Ext.refl _ | assumption | refine Ext.drew ?_ | refine Ext.drewN ?_ _ | refine Ext.alloc ?_ _ | refine Ext.setCell ?_ ?_ _ | refine Ext.trans ?_ (by assumption)))); all_goals (first | (simp; done) | (simp; omega)))).mono ?_
  rintro e w2 ⟨v, far, rfl, hb2, hv, F, FL⟩
  obtain ⟨hc2, hf2⟩ := hb2.cells; have hz2 := hb2.size; (repeat (first | rw [World.size_alloc] at hz2 | rw [World.size_drew] at hz2)); have z2_0 : w.heap.size < w2.heap.size := (by omega); have z2_1 : w.heap.size + 1 < w2.heap.size := (by omega)
  have FF := hide F
  obtain ⟨g, vc, hva, hg1, hg2⟩ := own_pos10 hv (by rw [farL_len]; omega)
  rw [farL_len] at hva
  subst hva
  have FO := hide (show FarAt w2 _ g vc far n from hv)
  clear F FL hv hg1 hg2
  go_wp2_with fail
  refine (H2.out _ (by (with_reducible (repeat' (first | exact Ext.refl _ | assumption | refine Ext.drew ?_ | refine Ext.drewN ?_ _ | refine Ext.alloc ?_ _ | refine Ext.setCell ?_ ?_ _ | refine Ext.trans ?_ (by assumption)))); all_goals (first | (simp; done) | (simp; omega)))).mono ?_
  rintro e w3 ⟨hb3, p1, c1, k1, er, v1, hs1, rfl, ho1⟩
  obtain ⟨ra, rc, hrv⟩ := ho1.slice
  rw [List.length_map] at hrv
  subst hrv
  have hx13 : Ext w1 w3 := (by (with_reducible (repeat' (first | exact Ext.refl _ | assumption | refine Ext.drew ?_ | refine Ext.drewN ?_ _ | refine Ext.alloc ?_ _ | refine Ext.setCell ?_ ?_ _ | refine Ext.trans ?_ (by assumption)))); all_goals (first | (simp; done) | (simp; omega)))
  have BF3 := hide (Blk.ext BF1.out hx13)
  have BE3 := hide (Blk.ext BE1.out hx13)
  have FO3 := hide (FO.out.ext hb3)
  have HX3 := hide (show Ext w w3 from (by (with_reducible (repeat' (first | exact Ext.refl _ | assumption | refine Ext.drew ?_ | refine Ext.drewN ?_ _ | refine Ext.alloc ?_ _ | refine Ext.setCell ?_ ?_ _ | refine Ext.trans ?_ (by assumption)))); all_goals (first | (simp; done) | (simp; omega))))
  have HSR := hide hs1
  have OP3 := hide ho1
  clear ho1 hs1 hx13 hc1 hf1 hc2 hf2 BF1 BE1 FO hb1 hb2 hb3 hz1 hz2 z1_0 z1_1 z2_0 z2_1
  have f0 := BF3.out.at 0 rfl; have f1 := BF3.out.at 1 rfl; have f2 := BF3.out.at 2 rfl; have fz := BF3.out.lt
  have q0 := BE3.out.at 0 rfl; have q1 := BE3.out.at 1 rfl; have q2 := BE3.out.at 2 rfl; have q3 := BE3.out.at 3 rfl; have q4 := BE3.out.at 4 rfl; have qz := BE3.out.lt
  by_cases hin : inB W H tx ty = true
  · have it := inB_true.1 hin
    have hlen := HLEN.out
    have hbx := HBX.out
    rw [hin] at HIN
    have hT := HLEAST.out _ _ _ _ _ HSR.out FF.out hin
    obtain ⟨T, hTT⟩ : ∃ z, idxN W (tx, ty) = z := ⟨_, rfl⟩
    have hi2 := idx_int (W := W) (x := tx) (y := ty) (by omega) (by omega) (by omega)
    rw [hTT] at hi2 hT
    have m1 := mul_bd (a := ty) (b := W) (A := 256) (B := 256) (by omega) (by omega) (by omega) (by omega)
    have kk1 : IntKind.i64.wrap (ty * W) = ty * W := IntWalk.i64_in _ (by omega)
    have kk2 : IntKind.i64.wrap (ty * W + tx) = (T : Int) := by rw [hi2]; exact IntWalk.i64_in _ (by omega)
    have hTn : T < n := by
      have m2 := Int.mul_le_mul_of_nonneg_right (show ty ≤ H - 1 by omega) (show 0 ≤ W by omega)
      rw [Int.sub_mul, Int.one_mul, Int.mul_comm H W] at m2
      omega
    have jT : (T : Int) < (n : Int) := by omega
    have g1 : decide ((n : Int) ≤ (T : Int)) = false := by simp; omega
    have g2 : decide (n ≤ T) = false := by simp; omega
    have HTT := hide hTT
    have fT := (FO3.out.cell hTn).1
    have fz3 := FO3.out.lt.2
    have fTn := FF.out.nn T
    clear hi2 m1 hTT HOUT HLEAST HIN
    rcases hT with ⟨rfl, hc1, hlt, hTold, hk1⟩ | ⟨rfl, hinf, rfl, rfl, hk1⟩
    · -- a path is told
      have G1 := HGOOD.out _ _ _ _ _ hTold (by omega)
      have S1 := HCOST.out _ _ _ _ _ hTold
      rw [← hc1] at fT
      have hne : (c1 == 18446744073709551615) = false := by
        have e : infI = 18446744073709551615 := rfl
        rw [beq_eq_false_iff_ne]; omega
      have hcap := own_cap OP3.out
      have hp0 : 0 < p1.length := by have := G1.pos; rwa [List.length_map] at this
      obtain ⟨P, hP⟩ : ∃ z, p1.length = z + 1 := ⟨p1.length - 1, by omega⟩
      have hfew := hTold.few
      have hh0 : (p1.map (cellV W))[0]? = some (x, y) := by
        have := hTold.head
        rw [List.head?_eq_getElem?] at this
        rw [List.getElem?_map, this]
        simp only [Option.map_some]
        rw [HCV.out x y (by omega) (by omega) (by omega)]
      have hhP : (p1.map (cellV W))[P]? = some (tx, ty) := by
        have := hTold.last
        rw [List.getLast?_eq_getElem?, hP, Nat.add_sub_cancel] at this
        rw [List.getElem?_map, this]
        simp only [Option.map_some]
        rw [← HTT.out, HCV.out tx ty (by omega) (by omega) (by omega)]
      have hra : ∃ rg, ra = some ⟨rg, 0, none⟩ := by
        obtain ⟨rg, rc', e, _⟩ := own_pos10 OP3.out (by rw [List.length_map]; omega)
        injection e with e
        exact ⟨rg, e⟩
      obtain ⟨rg, rfl⟩ := hra
      obtain ⟨PL, hPL⟩ : ∃ z, p1.map (cellV W) = z := ⟨_, rfl⟩
      have HPLL : Hid (PL.length = P + 1) := hide (by rw [← hPL, List.length_map, hP])
      rw [hPL] at OP3 G1 S1 hh0 hhP
      rw [hP] at OP3 S1 hcap hfew ⊢
      have HG1 := hide G1
      have HS1 := hide (show sumC W l PL PL.length = c1 by rw [HPLL.out]; exact S1)
      have HH0 := hide hh0
      have HHP := hide hhP
      have e1 : decide (((P : Int) + 1) ≤ k1) = true := by simp; omega
      have e2 : decide (k1 ≤ (n : Int)) = true := by simp; omega
      have e3 : decide (((P : Int) + 1) < 1) = false := by simp; omega
      have s1 : IntKind.i64.wrap ((P : Int) + 1 - 1) = (P : Int) := by rw [Int.add_sub_cancel]; exact IntWalk.i64_in _ (by omega)
      have s3 : IntKind.i64.wrap (P : Int) = (P : Int) := IntWalk.i64_in _ (by omega)
      have HRC1 := hide (fun (w' : World) (hx : Ext w w') (h1 : RowC w' (some ⟨rg, 0, none⟩) PL) => HRC.out w' hx (some ⟨rg, 0, none⟩) PL rc h1 (by rw [HPLL.out]; exact hcap) HG1.out)
      have HRK1 := hide (fun (w' : World) (hx : Ext w w') (h1 : RowC w' (some ⟨rg, 0, none⟩) PL) => HRK.out w' hx (some ⟨rg, 0, none⟩) PL rc h1 HG1.out)
      rw [HS1.out, HPLL.out] at HRC1
      rw [HPLL.out] at HRK1
      clear HRC HRK
      clear hc1 hlt hTold hk1 HGOOD HCOST G1 S1 hp0 hP hfew hh0 hhP hPL fTn HSR FF it hin hlen hbx
      go_wp2_with fail
      obtain ⟨w4, hw4⟩ : ∃ z, z = w3.alloc (.cells #[.slice (some ⟨rg, 0, none⟩) (P + 1) rc, .int .u64 c1, .int .i64 k1] 40) := ⟨_, rfl⟩
      have hx34 : Ext w3 w4 := by rw [hw4]; exact (by (with_reducible (repeat' (first | exact Ext.refl _ | assumption | refine Ext.drew ?_ | refine Ext.drewN ?_ _ | refine Ext.alloc ?_ _ | refine Ext.setCell ?_ ?_ _ | refine Ext.trans ?_ (by assumption)))); all_goals (first | (simp; done) | (simp; omega)))
      have Y4 := hide (show Blk w4 w3.heap.size 40 #[.slice (some ⟨rg, 0, none⟩) (P + 1) rc, .int .u64 c1, .int .i64 k1] by rw [hw4]; exact Blk.new_ rfl)
      have BF4 := hide (BF3.out.ext hx34)
      have BE4 := hide (BE3.out.ext hx34)
      have OP4 := hide (OP3.out.ext hx34)
      have X4 := hide (HX3.out.trans hx34)
      have FO4 := hide (FO3.out.ext hx34)
      rw [← hw4]
      obtain ⟨yb, hyb⟩ : ∃ z, w3.heap.size = z := ⟨_, rfl⟩
      rw [hyb] at Y4 ⊢
      replace fT := (hx34.cell (p := ⟨g, T, none⟩) fz3).trans fT
      replace fz3 : g < w4.heap.size := Nat.lt_of_lt_of_le fz3 hx34.size
      clear hw4 hx34 hyb f0 f1 f2 fz q0 q1 q2 q3 q4 qz BF3 BE3 OP3 FO3 HX3
      refine (HRC1.out _ X4.out (Reads.rowC OP4.out.reads).2).mono ?_
      rintro e w5 ⟨rfl, hx5⟩
      have BF5 := hide (BF4.out.ext hx5)
      have BE5 := hide (BE4.out.ext hx5)
      have Y5 := hide (Y4.out.ext hx5)
      have OP5 := hide (OP4.out.ext hx5)
      have X5 := hide (X4.out.trans hx5)
      replace fT := (hx5.cell (p := ⟨g, T, none⟩) fz3).trans fT
      replace fz3 : g < w5.heap.size := Nat.lt_of_lt_of_le fz3 hx5.size
      have u0 := (own_cell10 OP5.out HH0.out (j := 0) (u := .int .i64 x) rfl).1
      have u1 := (own_cell10 OP5.out HH0.out (j := 1) (u := .int .i64 y) rfl).1
      have u2 := (own_cell10 OP5.out HHP.out (j := 0) (u := .int .i64 tx) rfl).1
      have u3 := (own_cell10 OP5.out HHP.out (j := 1) (u := .int .i64 ty) rfl).1
      have uz := (own_lt OP5.out (k := rg) rfl).2
      simp only [cellE, Nat.zero_mul, Nat.zero_add, Nat.add_zero] at u0 u1 u2 u3
      have hq0 : ∀ w, (Op.equalIn 10000 28 (.agg #[.int .i64 x, .int .i64 y]) (.agg #[.int .i64 x, .int .i64 y])).run Try.prog w = .ok true w := fun w => by rw [eq_cell (x, y) (x, y) w, cellB_eq, decide_eq_true rfl]
      have hq1 : ∀ w, (Op.equalIn 10000 28 (.agg #[.int .i64 tx, .int .i64 ty]) (.agg #[.int .i64 tx, .int .i64 ty])).run Try.prog w = .ok true w := fun w => by rw [eq_cell (tx, ty) (tx, ty) w, cellB_eq, decide_eq_true rfl]
      have f0 := BF5.out.at 0 rfl; have f1 := BF5.out.at 1 rfl; have f2 := BF5.out.at 2 rfl; have fz := BF5.out.lt
      have q0 := BE5.out.at 0 rfl; have q1 := BE5.out.at 1 rfl; have q2 := BE5.out.at 2 rfl; have q3 := BE5.out.at 3 rfl; have q4 := BE5.out.at 4 rfl; have qz := BE5.out.lt
      have y0 := Y5.out.at 0 rfl; have y1 := Y5.out.at 1 rfl; have y2 := Y5.out.at 2 rfl; have yz := Y5.out.lt
      have jP : (P : Int) < (P : Int) + 1 := by omega
      clear hx5 BF4 BE4 Y4 OP4 X4 FO4 HRC1
      go_wp2_with fail
      refine seqH_start (S := (fun W => (∀ b o, b < w5.heap.size → W.cell? ⟨b, o, none⟩ = w5.cell? ⟨b, o, none⟩) ∧ Ext w5 W)) [(0, true), (1, true), (2, true), (3, true), (4, true), (5, true), (6, true), (7, true), (8, true), (9, true), (10, true), (11, true), (12, true), (13, true), (14, true), (15, true), (16, true), (17, true), (18, true), (19, true), (20, true), (21, true), (22, true), (23, true), (24, true), (25, true), (26, true)] (by kernel_rfl) (by kernel_rfl) (by kernel_rfl) (by decide) (fun _ _ d _ _ h => by cases d <;> exact h) (by first | with_reducible exact pr_start _ | exact pr_of (by (with_reducible (repeat' (first | exact Ext.refl _ | assumption | refine Ext.drew ?_ | refine Ext.drewN ?_ _ | refine Ext.alloc ?_ _ | refine Ext.setCell ?_ ?_ _ | refine Ext.trans ?_ (by assumption)))); all_goals (first | (simp; done) | (simp; omega)))) (fun hHeld => ?_)
      iterate 27 (apply SeqH.free; (· (simp only [List.getElem?_toArray, List.getElem?_cons_succ, List.getElem?_cons_zero]; rfl)); (· first | exact Or.inr ⟨by rfl, rfl⟩ | (refine Or.inl ⟨by rfl, ?_⟩; intro w hSw; (try dsimp only at hSw); go_simp; try with_reducible rfl)); try simp only [Act.put, List.setIfInBounds_toArray, List.set_cons_zero, List.set_cons_succ])
      refine SeqH.done ?_
      clear hHeld
      go_wp2_with fail
      refine seqH_start (S := (fun W => (∀ b o, b < w5.heap.size → W.cell? ⟨b, o, none⟩ = w5.cell? ⟨b, o, none⟩) ∧ Ext w5 W)) [(0, true), (1, true), (2, true), (3, true), (4, true), (5, true), (6, true), (7, true), (8, true), (9, true), (10, true), (11, true), (12, true), (13, true), (14, true), (15, true), (16, true), (17, true), (18, true), (19, true), (20, true), (21, true), (22, true), (23, true), (24, false), (25, true), (26, true), (27, true), (28, true), (29, true), (30, true), (31, true), (32, true), (33, true), (34, true), (35, true), (36, true), (37, true), (38, true), (39, true), (40, true), (41, true), (42, true), (43, true), (44, false), (45, true), (46, true)] (by kernel_rfl) (by kernel_rfl) (by kernel_rfl) (by decide) (fun _ _ d _ _ h => by cases d <;> exact h) (by first | with_reducible exact pr_start _ | exact pr_of (by (with_reducible (repeat' (first | exact Ext.refl _ | assumption | refine Ext.drew ?_ | refine Ext.drewN ?_ _ | refine Ext.alloc ?_ _ | refine Ext.setCell ?_ ?_ _ | refine Ext.trans ?_ (by assumption)))); all_goals (first | (simp; done) | (simp; omega)))) (fun hHeld => ?_)
      iterate 24 (apply SeqH.free; (· (simp only [List.getElem?_toArray, List.getElem?_cons_succ, List.getElem?_cons_zero]; rfl)); (· first | exact Or.inr ⟨by rfl, rfl⟩ | (refine Or.inl ⟨by rfl, ?_⟩; intro w hSw; (try dsimp only at hSw); go_simp; try with_reducible rfl)); try simp only [Act.put, List.setIfInBounds_toArray, List.set_cons_zero, List.set_cons_succ])
      (apply SeqH.step; (· (simp only [List.getElem?_toArray, List.getElem?_cons_succ, List.getElem?_cons_zero]; rfl)); intro K hK; go_simp; refine (HRK1.out _ (X5.out.trans (by (with_reducible (repeat' (first | exact Ext.refl _ | assumption | refine Ext.drew ?_ | refine Ext.drewN ?_ _ | refine Ext.alloc ?_ _ | refine Ext.setCell ?_ ?_ _ | refine Ext.trans ?_ (by assumption)))); all_goals (first | (simp; done) | (simp; omega)))) ((Reads.rowC OP5.out.reads).2.ext (by (with_reducible (repeat' (first | exact Ext.refl _ | assumption | refine Ext.drew ?_ | refine Ext.drewN ?_ _ | refine Ext.alloc ?_ _ | refine Ext.setCell ?_ ?_ _ | refine Ext.trans ?_ (by assumption)))); all_goals (first | (simp; done) | (simp; omega))))).mono ?_; rintro e w6 ⟨rfl, hb6⟩; go_wp2_with fail; refine hK.out _ _ (pr_of (by (with_reducible (repeat' (first | exact Ext.refl _ | assumption | refine Ext.drew ?_ | refine Ext.drewN ?_ _ | refine Ext.alloc ?_ _ | refine Ext.setCell ?_ ?_ _ | refine Ext.trans ?_ (by assumption)))); all_goals (first | (simp; done) | (simp; omega)))) (fun hHeld => ?_); clear hK K; try simp only [Act.put, List.setIfInBounds_toArray, List.set_cons_zero, List.set_cons_succ])
      iterate 19 (apply SeqH.free; (· (simp only [List.getElem?_toArray, List.getElem?_cons_succ, List.getElem?_cons_zero]; rfl)); (· first | exact Or.inr ⟨by rfl, rfl⟩ | (refine Or.inl ⟨by rfl, ?_⟩; intro w hSw; (try dsimp only at hSw); go_simp; try with_reducible rfl)); try simp only [Act.put, List.setIfInBounds_toArray, List.set_cons_zero, List.set_cons_succ])
      (apply SeqH.step; (· (simp only [List.getElem?_toArray, List.getElem?_cons_succ, List.getElem?_cons_zero]; rfl)); intro K hK; go_simp; refine (awake10_any _).mono ?_; rintro e w7 ⟨rfl, hb7⟩; go_wp2_with fail; refine hK.out _ _ (pr_of (by (with_reducible (repeat' (first | exact Ext.refl _ | assumption | refine Ext.drew ?_ | refine Ext.drewN ?_ _ | refine Ext.alloc ?_ _ | refine Ext.setCell ?_ ?_ _ | refine Ext.trans ?_ (by assumption)))); all_goals (first | (simp; done) | (simp; omega)))) (fun hHeld => ?_); clear hK K; try simp only [Act.put, List.setIfInBounds_toArray, List.set_cons_zero, List.set_cons_succ])
      iterate 2 (apply SeqH.free; (· (simp only [List.getElem?_toArray, List.getElem?_cons_succ, List.getElem?_cons_zero]; rfl)); (· first | exact Or.inr ⟨by rfl, rfl⟩ | (refine Or.inl ⟨by rfl, ?_⟩; intro w hSw; (try dsimp only at hSw); go_simp; try with_reducible rfl)); try simp only [Act.put, List.setIfInBounds_toArray, List.set_cons_zero, List.set_cons_succ])
      refine SeqH.done ?_
      have hx := hHeld.2
      clear hHeld
      go_wp2_with fail
      go_ret
      exact ⟨rfl, X5.out.trans hx⟩
    · -- none is told
      rw [hinf] at fT
      change w3.cell? ⟨g, T, none⟩ = some (.int .u64 18446744073709551615) at fT
      obtain ⟨ab, ao, rfl, hab, hac⟩ := HR16.out (by rw [HNN.out]; omega)
      have hTl : T < l.length := by rw [HNN.out]; exact hTn
      have hcT := hac T hTl
      have hcst : l.getD T 0 = l[T] := by simp [List.getD_eq_getElem?_getD, hTl]
      rw [hcst] at hk1
      obtain ⟨cst, hcs⟩ : ∃ z, l[T] = z := ⟨_, rfl⟩
      rw [hcs] at hk1 hcT
      have HK1 := hide hk1
      clear hac hTl hcst hcs hk1 hinf HGOOD HCOST HSR it hin hlen hbx HRC HRK fTn
      simp only [List.map_nil, List.length_nil] at OP3 ⊢
      go_wp2_with fail
      obtain ⟨w4, hw4⟩ : ∃ z, z = w3.alloc (.cells #[.slice ra 0 rc, .int .u64 0, .int .i64 k1] 40) := ⟨_, rfl⟩
      have hx34 : Ext w3 w4 := by rw [hw4]; exact (by (with_reducible (repeat' (first | exact Ext.refl _ | assumption | refine Ext.drew ?_ | refine Ext.drewN ?_ _ | refine Ext.alloc ?_ _ | refine Ext.setCell ?_ ?_ _ | refine Ext.trans ?_ (by assumption)))); all_goals (first | (simp; done) | (simp; omega)))
      have Y4 := hide (show Blk w4 w3.heap.size 40 #[.slice ra 0 rc, .int .u64 0, .int .i64 k1] by rw [hw4]; exact Blk.new_ rfl)
      have BF4 := hide (BF3.out.ext hx34)
      have FO4 := hide (FO3.out.ext hx34)
      have X4 := hide (HX3.out.trans hx34)
      rw [← hw4]
      obtain ⟨yb, hyb⟩ : ∃ z, w3.heap.size = z := ⟨_, rfl⟩
      rw [hyb] at Y4 ⊢
      clear hw4 hx34 hyb f0 f1 f2 fz q0 q1 q2 q3 q4 qz BF3 BE3 OP3 FO3 HX3 fT fz3
      go_loopw [10, 11] (fun rv iv wr => ∃ k : Nat, k ≤ n ∧ iv = .int .i64 k ∧ rv = .int .i64 (((List.range k).countP (fun v => decide (far v < infI ∧ cst ≠ 0)) : Nat) : Int) ∧ Ext w4 wr) (fun _ iv _ => n - (intOf iv).toNat)
      case atStart => exact ⟨0, Nat.zero_le _, rfl, rfl, Ext.refl _⟩
      case round =>
        obtain ⟨k, hk, rfl, rfl, hx⟩ := hrel
        have XR := hide hx
        have hb1 := List.countP_le_length (p := fun v => decide (far v < infI ∧ cst ≠ 0)) (l := List.range k)
        rw [List.length_range] at hb1
        by_cases hlt : k < n
        · have HC1 := hide (count_one10 (fun v => decide (far v < infI ∧ cst ≠ 0)) k)
          generalize (List.range k).countP (fun v => decide (far v < infI ∧ cst ≠ 0)) = m1 at *
          have hfc := ((FO4.out.ext hx).cell hlt).1
          have hgz := (FO4.out.ext hx).lt.2
          have hfi := FF.out.le k
          obtain ⟨fk, hfk⟩ : ∃ z, far k = z := ⟨_, rfl⟩
          rw [hfk] at hfc hfi HC1
          have BFr := hide (BF4.out.ext hx)
          have f0 := BFr.out.at 0 rfl; have f1 := BFr.out.at 1 rfl; have f2 := BFr.out.at 2 rfl; have fz := BFr.out.lt
          have hxw := X4.out.trans hx
          have y2 := (hxw.cell (p := ⟨ab, ao + T, none⟩) hab).trans hcT
          have yz2 : ab < wr.heap.size := Nat.lt_of_lt_of_le hab hxw.size
          have jk : (k : Int) < (n : Int) := by omega
          clear hfk hx hxw
          by_cases hinf : fk = 18446744073709551615
          · subst hinf
            have HE1 : Hid ((List.range (k + 1)).countP (fun v => decide (far v < infI ∧ cst ≠ 0)) = m1) := hide (by rw [HC1.out, if_neg (by simp only [decide_eq_true_eq]; exact fun h => absurd h.1 (Int.lt_irrefl _))]; rfl)
            clear HC1 hfi
            have fne : ((18446744073709551615 : Int) != 18446744073709551615) = false := by decide
            go_wp2_with fail
            go_roundw
            case rel => exact ⟨k + 1, hlt, by go_num, by rw [HE1.out], XR.out.trans (by (with_reducible (repeat' (first | exact Ext.refl _ | assumption | refine Ext.drew ?_ | refine Ext.drewN ?_ _ | refine Ext.alloc ?_ _ | refine Ext.setCell ?_ ?_ _ | refine Ext.trans ?_ (by assumption)))); all_goals (first | (simp; done) | (simp; omega)))⟩
            case measure => simp [intOf]; omega
          · have fne : (fk != 18446744073709551615) = true := by simpa using hinf
            have hfl : fk < infI := by have e : infI = 18446744073709551615 := rfl; omega
            by_cases hc0 : cst = 0
            · subst hc0
              have HE1 : Hid ((List.range (k + 1)).countP (fun v => decide (far v < infI ∧ (0 : Int) ≠ 0)) = m1) := hide (by rw [HC1.out, if_neg (by simp)]; rfl)
              clear HC1 hfi hfl hinf
              go_wp2_with fail
              go_roundw
              case rel => exact ⟨k + 1, hlt, by go_num, by rw [HE1.out], XR.out.trans (by (with_reducible (repeat' (first | exact Ext.refl _ | assumption | refine Ext.drew ?_ | refine Ext.drewN ?_ _ | refine Ext.alloc ?_ _ | refine Ext.setCell ?_ ?_ _ | refine Ext.trans ?_ (by assumption)))); all_goals (first | (simp; done) | (simp; omega)))⟩
              case measure => simp [intOf]; omega
            · have HE1 : Hid ((List.range (k + 1)).countP (fun v => decide (far v < infI ∧ cst ≠ 0)) = m1 + 1) := hide (by rw [HC1.out, if_pos (by simp only [decide_eq_true_eq]; exact ⟨hfl, hc0⟩)])
              have hcn : (cst != 0) = true := by simpa using hc0
              clear HC1 hfi hfl hinf hc0
              go_wp2_with fail
              go_roundw
              case rel => exact ⟨k + 1, hlt, by go_num, by rw [HE1.out] <;> go_num, XR.out.trans (by (with_reducible (repeat' (first | exact Ext.refl _ | assumption | refine Ext.drew ?_ | refine Ext.drewN ?_ _ | refine Ext.alloc ?_ _ | refine Ext.setCell ?_ ?_ _ | refine Ext.trans ?_ (by assumption)))); all_goals (first | (simp; done) | (simp; omega)))⟩
              case measure => simp [intOf]; omega
        · obtain rfl : k = n := by omega
          have hk1 := HK1.out
          generalize (List.range k).countP (fun v => decide (far v < infI ∧ cst ≠ 0)) = m1 at *
          have Yr := hide (Y4.out.ext hx)
          subst hk1
          have y0 := Yr.out.at 0 rfl; have y1 := Yr.out.at 1 rfl; have y2 := Yr.out.at 2 rfl; have yz := Yr.out.lt
          have hxw := X4.out.trans hx
          clear hx XR
          go_wp2_with (go_at_call 16; refine (awake10_any _).mono ?_; rintro e w6 ⟨rfl, hb6⟩)
          go_ret
          exact ⟨rfl, hxw.trans (by (with_reducible (repeat' (first | exact Ext.refl _ | assumption | refine Ext.drew ?_ | refine Ext.drewN ?_ _ | refine Ext.alloc ?_ _ | refine Ext.setCell ?_ ?_ _ | refine Ext.trans ?_ (by assumption)))); all_goals (first | (simp; done) | (simp; omega)))⟩
  · -- the end is not on the map
    have hin2 : inB W H tx ty = false := by simpa using hin
    obtain ⟨rfl, rfl⟩ := HOUT.out _ _ _ _ HSR.out hin2
    rw [hin2] at HIN
    clear hin hin2 HOUT HLEAST HGOOD HCOST HSR HRC HRK
    simp only [List.map_nil, List.length_nil] at OP3 ⊢
    go_wp2_with (first
      | (go_at_call 19; refine (HIN.out _).mono ?_; rintro e w5 ⟨rfl, hb5⟩; obtain ⟨hc5, hf5⟩ := hb5.cells; have hz5 := hb5.size; (repeat (first | rw [World.size_alloc] at hz5 | rw [World.size_drew] at hz5)); have z5_0 : w3.heap.size < w5.heap.size := (by omega))
      | (go_at_call 16; refine (awake10_any _).mono ?_; rintro e w6 ⟨rfl, hb6⟩))
    go_ret
    exact ⟨rfl, HX3.out.trans (by (with_reducible (repeat' (first | exact Ext.refl _ | assumption | refine Ext.drew ?_ | refine Ext.drewN ?_ _ | refine Ext.alloc ?_ _ | refine Ext.setCell ?_ ?_ _ | refine Ext.trans ?_ (by assumption)))); all_goals (first | (simp; done) | (simp; omega)))⟩
end Go.Proofs.Ytifbmapianddcaa
