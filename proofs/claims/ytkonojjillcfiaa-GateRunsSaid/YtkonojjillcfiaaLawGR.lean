/- GateRuns: for every field of up to 260 costs, every parts and any two clusters, the law returns true and leaves its arguments as they were. No condition. -/
import Derived.Test.YtkonojjillcfiaaLawGRa
namespace Go.Proofs.Ytkonojjillcfiaa
open Go.RowKit Go.ChangeShapes Go.WideShapes Go.ChangeAt

theorem pairs_of {w : World} {a : Option Addr} {n c : Nat} {l : List (Cell × Cell)} (h : Reads pairE w (.slice a n c) l) (hl : 0 < l.length) : ∃ b off, a = some ⟨b, off, none⟩ ∧ b < w.heap.size ∧ PairsAt w b off l := by
  rcases h with ⟨_, rfl⟩ | ⟨b, off, c', e, hb, hc⟩
  · simp at hl
  · have e1 : a = some ⟨b, off, none⟩ := by injection e
    have e2 : n = l.length := by injection e
    have e3 : c = c' := by injection e
    subst e1 e2 e3
    exact ⟨b, off, rfl, hb, (Reads.pairs (.inr ⟨b, off, c, rfl, hb, hc⟩ : Reads pairE w (.slice (some ⟨b, off, none⟩) l.length c) l)).2⟩

set_option maxRecDepth 100000 in
set_option maxHeartbeats 4000000 in
theorem gr_run (W H : Int) (a : Option Addr) (l : List Int) (c : Nat) (s x y lo hi : Int) (B L : List (Cell × Cell)) (w : World) (hn : (l.length : Int) ≤ 260) (h0 : checkE W H l.length = 0) (hrw : Row16 w a l) (hu : U16s l) (hr : rightB W H s = true) (hlh : lo ≠ hi)
    (hG : ∀ w, Row16 w a l → Calls Try.prog 17 #[.agg #[.int .i64 W, .int .i64 H, .slice a l.length c], .agg #[.int .i64 W, .int .i64 H, .int .i64 s], .int .i64 x, .int .i64 y] w (RetGatesE w L 0))
    (hB : ∀ w, Calls Try.prog 24 #[.agg #[.int .i64 W, .int .i64 H, .int .i64 s], .int .i64 x, .int .i64 y] w (RetPairs w B 0)) (hl1 : 0 < B.length) (hl2 : B.length ≤ 16)
    (hL : L = pick B (gatesI (opB l W B) B.length 0)) (hL2 : L.length ≤ 16)
    (hin : ∀ (k : Nat) (p : Cell × Cell), B[k]? = some p → InMap W H p ∧ inB W H p.1.1 p.1.2 = true ∧ inB W H p.2.1 p.2.2 = true ∧ ofN W s p.1.1 p.1.2 = lo ∧ ofN W s p.2.1 p.2.2 = hi)
    (hne : ∀ (d k : Nat) (q : Cell × Cell), B[d]? = some q → B[k]? = some q → d = k) :
    Calls Try.prog 4 #[.agg #[.int .i64 W, .int .i64 H, .slice a l.length c], .agg #[.int .i64 W, .int .i64 H, .int .i64 s], .agg #[.int .i64 x, .int .i64 y]] w fun e w' => e = .returned (.bool true) ∧ Ext w w' := by
  have hd : decide ((l.length : Int) ≤ 260) = true := by simpa using hn
  obtain ⟨m1, m2⟩ := checkE_ok.1 h0
  have H0 := hide h0
  have HG := hide hG
  have HB := hide hB
  have HRW := hide hrw
  have HC := hide (fun (w' : World) (hx : Ext w w') (q : Cell) (h : 0 ≤ q.1 ∧ q.1 < W ∧ 0 ≤ q.2 ∧ q.2 < H) => rCost_any W H a l c q.1 q.2 w' m1 m2 (hrw.ext hx) hu h.1 h.2.1 h.2.2.1 h.2.2.2)
  have HU := hide (fun q => costI_bd hu W q)
  have HIN := hide hin
  have HNE := hide hne
  have HR := hide hr
  have q : (W == W && H == H) = true := by simp
  have hq := fun w => eq_size W H W H w
  have HAL := hide (show Along (opB l W B) B L 0 0 0 by rw [hL]; exact along_start _ _)
  obtain ⟨n, hn'⟩ : ∃ n, l.length = n := ⟨_, rfl⟩
  have HN := hide hn'
  rw [hn'] at H0 HG HC hd ⊢
  clear hn h0 hG hB hrw hu hin hne hr m1 m2 hL hn'
  go_enter Try.func4, Try.ntmps4
  go_wp2_with (first
    | (go_at_call 15; refine (small12_any _ _ _ _ _ _).mono ?_; rintro e w1 ⟨rfl, hb1⟩; rw [hd]; obtain ⟨hc1, hf1⟩ := hb1.cells; have hz1 := hb1.size; (repeat (first | rw [World.size_alloc] at hz1 | rw [World.size_drew] at hz1)); have z1_0 : w.heap.size < w1.heap.size := (by omega); have z1_1 : w.heap.size + 1 < w1.heap.size := (by omega); have z1_2 : w.heap.size + 1 + 1 < w1.heap.size := (by omega))
    | (go_at_call 23; refine (r04Check_any _ _ _ _ _ _).mono ?_; rintro e w2 ⟨rfl, hb2⟩; rw [H0.out]; obtain ⟨hc2, hf2⟩ := hb2.cells; have hz2 := hb2.size; (repeat (first | rw [World.size_alloc] at hz2 | rw [World.size_drew] at hz2)); have z2_0 : w.heap.size < w2.heap.size := (by omega); have z2_1 : w.heap.size + 1 < w2.heap.size := (by omega); have z2_2 : w.heap.size + 1 + 1 < w2.heap.size := (by omega))
    | (go_at_call 17; refine (HG.out _ (HRW.out.ext (by (with_reducible (repeat' (first | exact Ext.refl _ | assumption | refine Ext.drew ?_ | refine Ext.drewN ?_ _ | refine Ext.alloc ?_ _ | refine Ext.setCell ?_ ?_ _ | refine Ext.trans ?_ (by assumption)))); all_goals (first | (simp; done) | (simp; omega))))).mono ?_; rintro e w3 ⟨v3, rfl, hb3, hv3⟩; obtain ⟨aL, cL, rfl⟩ := hv3.slice; have HV3 := hide hv3; clear hv3; obtain ⟨hc3, hf3⟩ := hb3.cells; have hz3 := hb3.size; (repeat (first | rw [World.size_alloc] at hz3 | rw [World.size_drew] at hz3)); have z3_0 : w.heap.size < w3.heap.size := (by omega); have z3_1 : w.heap.size + 1 < w3.heap.size := (by omega); have z3_2 : w.heap.size + 1 + 1 < w3.heap.size := (by omega))
    | (go_at_call 24; refine (HB.out _).mono ?_; rintro e w4 ⟨v4, rfl, hb4, hv4⟩; obtain ⟨g, cB, rfl, hg1, hg2⟩ := hv4.pos hl1; have HV4 := hide hv4; clear hv4; obtain ⟨hc4, hf4⟩ := hb4.cells; have hz4 := hb4.size; (repeat (first | rw [World.size_alloc] at hz4 | rw [World.size_drew] at hz4)); have z4_0 : w.heap.size < w4.heap.size := (by omega); have z4_1 : w.heap.size + 1 < w4.heap.size := (by omega); have z4_2 : w.heap.size + 1 + 1 < w4.heap.size := (by omega)))
  have x4 : Ext w w4 := (by (with_reducible (repeat' (first | exact Ext.refl _ | assumption | refine Ext.drew ?_ | refine Ext.drewN ?_ _ | refine Ext.alloc ?_ _ | refine Ext.setCell ?_ ?_ _ | refine Ext.trans ?_ (by assumption)))); all_goals (first | (simp; done) | (simp; omega)))
  have k00 : w4.cell? ⟨w.heap.size, 0, none⟩ = some (.int .i64 W) := by rw [hc4 _ _ (by omega), hc3 _ _ (by omega), hc2 _ _ (by omega), hc1 _ _ (by simp <;> omega)] <;> simp [go_sem]
  have k01 : w4.cell? ⟨w.heap.size, 1, none⟩ = some (.int .i64 H) := by rw [hc4 _ _ (by omega), hc3 _ _ (by omega), hc2 _ _ (by omega), hc1 _ _ (by simp <;> omega)] <;> simp [go_sem]
  have k02 : w4.cell? ⟨w.heap.size, 2, none⟩ = some (.slice a n c) := by rw [hc4 _ _ (by omega), hc3 _ _ (by omega), hc2 _ _ (by omega), hc1 _ _ (by simp <;> omega)] <;> simp [go_sem]
  have k10 : w4.cell? ⟨w.heap.size + 1, 0, none⟩ = some (.int .i64 W) := by rw [hc4 _ _ (by omega), hc3 _ _ (by omega), hc2 _ _ (by omega), hc1 _ _ (by simp <;> omega)] <;> simp [go_sem]
  have k11 : w4.cell? ⟨w.heap.size + 1, 1, none⟩ = some (.int .i64 H) := by rw [hc4 _ _ (by omega), hc3 _ _ (by omega), hc2 _ _ (by omega), hc1 _ _ (by simp <;> omega)] <;> simp [go_sem]
  have k12 : w4.cell? ⟨w.heap.size + 1, 2, none⟩ = some (.int .i64 s) := by rw [hc4 _ _ (by omega), hc3 _ _ (by omega), hc2 _ _ (by omega), hc1 _ _ (by simp <;> omega)] <;> simp [go_sem]
  have KK := hide (show _ ∧ _ ∧ _ ∧ _ ∧ _ ∧ _ from ⟨k00, k01, k02, k10, k11, k12⟩)
  have HVL := hide (HV3.out.reads.ext hb4)
  have HVB := hide (HV4.out.reads.pairs.2)
  have X4 := hide x4
  clear x4 HV3 HV4 hb1 hb2 hb3 hb4 hc1 hc2 hc3 hc4 hf1 hf2 hf3 hf4 z1_0 z1_1 z1_2 z2_0 z2_1 z2_2 z3_0 z3_1 z3_2 k00 k01 k02 k10 k11 k12 hq q HG HB HRW H0 hd
  go_loopw [11, 12, 13] (fun nn sn i wr => ∃ (k m : Nat) (sv : Int), k ≤ B.length ∧ i = .int .i64 k ∧ nn = .int .i64 m ∧ sn = .int .i64 sv ∧ m ≤ L.length ∧ Along (opB l W B) B L k m sv ∧ Ext w4 wr) (fun _ _ i _ => B.length - (intOf i).toNat)
  case atStart => exact ⟨0, 0, 0, Nat.zero_le _, rfl, rfl, rfl, Nat.zero_le _, HAL.out, Ext.refl _⟩
  case round =>
    obtain ⟨k, m, sv, hk, rfl, rfl, rfl, hmL, hal, hxr⟩ := hrel
    have AL := hide hal
    clear hal HAL
    have hz := hxr.size
    by_cases hlt : k < B.length
    · obtain ⟨⟨⟨px, py⟩, ⟨rx, ry⟩⟩, hp⟩ : ∃ p, B[k]? = some p := ⟨_, List.getElem?_eq_getElem hlt⟩
      have ep : B[k] = ((px, py), (rx, ry)) := by rw [List.getElem?_eq_getElem hlt] at hp; exact Option.some.inj hp
      obtain ⟨q1, q2, q3, q4⟩ := (HVB.out.ext hg2 hxr) k hlt
      rw [ep] at q1 q2 q3 q4
      simp only [Nat.zero_add] at q1 q2 q3 q4
      obtain ⟨⟨⟨i1, i2, i3, i4⟩, i5, i6, i7, i8⟩, b1, b2, o1, o2⟩ := HIN.out k _ hp
      simp only at i1 i2 i3 i4 i5 i6 i7 i8 b1 b2 o1 o2
      have HO1 := hide (fun w => of_yes W H s px py w HR.out b1)
      have HO2 := hide (fun w => of_yes W H s rx ry w HR.out b2)
      rw [o1] at HO1
      rw [o2] at HO2
      have HCA := hide (fun w' (hx : Ext w w') => HC.out w' hx (px, py) ⟨i1, i2, i3, i4⟩)
      have HCB := hide (fun w' (hx : Ext w w') => HC.out w' hx (rx, ry) ⟨i5, i6, i7, i8⟩)
      simp only at HCA HCB
      have u1 := (HU.out (px, py)).1
      have u2 := (HU.out (rx, ry)).1
      have HOP := hide (show opB l W B k = (decide (0 < costI l W (px, py)) && decide (0 < costI l W (rx, ry))) by unfold opB openP; rw [hp])
      generalize costI l W (px, py) = ca at *
      generalize costI l W (rx, ry) = cb at *
      obtain ⟨k00, k01, k02, k10, k11, k12⟩ := KK.out
      have d0 := (hxr.cell (p := ⟨w.heap.size, 0, none⟩) z4_0).trans k00
      have d1 := (hxr.cell (p := ⟨w.heap.size, 1, none⟩) z4_0).trans k01
      have d2 := (hxr.cell (p := ⟨w.heap.size, 2, none⟩) z4_0).trans k02
      have d3 := (hxr.cell (p := ⟨w.heap.size + 1, 0, none⟩) z4_1).trans k10
      have d4 := (hxr.cell (p := ⟨w.heap.size + 1, 1, none⟩) z4_1).trans k11
      have d5 := (hxr.cell (p := ⟨w.heap.size + 1, 2, none⟩) z4_1).trans k12
      have XR := hide hxr
      have XWR := hide (X4.out.trans hxr)
      have HEP := hide ep
      have zr0 : w.heap.size < wr.heap.size := by omega
      have zr1 : w.heap.size + 1 < wr.heap.size := by omega
      have zrg : g < wr.heap.size := by omega
      have lh : (lo == hi) = false := by simpa using hlh
      have g1 : decide (px < 0) = false := by simp; omega
      have g2 : decide (py < 0) = false := by simp; omega
      have g3 : decide (W ≤ rx) = false := by simp; omega
      have g4 : decide (H ≤ ry) = false := by simp; omega
      have g5 : decide (rx < 0) = false := by simp; omega
      have g6 : decide (ry < 0) = false := by simp; omega
      have g7 : decide (W ≤ px) = false := by simp; omega
      have g8 : decide (H ≤ py) = false := by simp; omega
      clear i1 i2 i3 i4 i5 i6 i7 i8 hlh
      clear hxr hp ep b1 b2 o1 o2 k00 k01 k02 k10 k11 k12 z4_0 z4_1 z4_2
      go_wp2_with fail
      refine (HO1.out _).mono ?_
      rintro e w5 ⟨rfl, hb5⟩
      obtain ⟨hc5, hf5⟩ := hb5.cells; have hz5 := hb5.size; (repeat (first | rw [World.size_alloc] at hz5 | rw [World.size_drew] at hz5)); have z5_0 : w.heap.size < w5.heap.size := (by omega); have z5_1 : w.heap.size + 1 < w5.heap.size := (by omega); have z5_2 : wr.heap.size < w5.heap.size := (by omega); have z5_3 : g < w5.heap.size := (by omega)
      have e5 : Ext wr w5 := (by (with_reducible (repeat' (first | exact Ext.refl _ | assumption | refine Ext.drew ?_ | refine Ext.drewN ?_ _ | refine Ext.alloc ?_ _ | refine Ext.setCell ?_ ?_ _ | refine Ext.trans ?_ (by assumption)))); all_goals (first | (simp; done) | (simp; omega)))
      have ya : wr.heap.size + 1 < w5.heap.size := by (try simp at hz5); omega
      have yb : w.heap.size + 1 + 1 ≤ w5.heap.size := by omega
      have a0 : w5.cell? ⟨wr.heap.size, 0, none⟩ = some (.int .i64 px) := by rw [hc5 _ _ (by simp <;> omega)] <;> simp [go_sem]
      have a1 : w5.cell? ⟨wr.heap.size, 1, none⟩ = some (.int .i64 py) := by rw [hc5 _ _ (by simp <;> omega)] <;> simp [go_sem]
      have a2 : w5.cell? ⟨wr.heap.size + 1, 0, none⟩ = some (.int .i64 rx) := by rw [hc5 _ _ (by simp <;> omega)] <;> simp [go_sem]
      have a3 : w5.cell? ⟨wr.heap.size + 1, 1, none⟩ = some (.int .i64 ry) := by rw [hc5 _ _ (by simp <;> omega)] <;> simp [go_sem]
      have f0 := (e5.cell (p := ⟨w.heap.size, 0, none⟩) zr0).trans d0
      have f1 := (e5.cell (p := ⟨w.heap.size, 1, none⟩) zr0).trans d1
      have f2 := (e5.cell (p := ⟨w.heap.size, 2, none⟩) zr0).trans d2
      have f3 := (e5.cell (p := ⟨w.heap.size + 1, 0, none⟩) zr1).trans d3
      have f4 := (e5.cell (p := ⟨w.heap.size + 1, 1, none⟩) zr1).trans d4
      have f5 := (e5.cell (p := ⟨w.heap.size + 1, 2, none⟩) zr1).trans d5
      have E5 := hide e5
      clear e5 hb5 hc5 hf5 hz5 d0 d1 d2 d3 d4 d5 q1 q2 q3 q4
      go_wp2_with fail
      refine (HO2.out _).mono ?_
      rintro e w6 ⟨rfl, hb6⟩
      obtain ⟨hc6, hf6⟩ := hb6.cells; have hz6 := hb6.size; (repeat (first | rw [World.size_alloc] at hz6 | rw [World.size_drew] at hz6)); have z6_0 : w.heap.size < w6.heap.size := (by omega); have z6_1 : w.heap.size + 1 < w6.heap.size := (by omega); have z6_2 : wr.heap.size < w6.heap.size := (by omega); have z6_3 : wr.heap.size + 1 < w6.heap.size := (by omega)
      have h0' := (hc6 _ _ z5_0).trans f0
      have h1' := (hc6 _ _ z5_0).trans f1
      have h2' := (hc6 _ _ z5_0).trans f2
      have c0 := (hc6 _ _ z5_2).trans a0
      have c1 := (hc6 _ _ z5_2).trans a1
      have c2 := (hc6 _ _ ya).trans a2
      have c3 := (hc6 _ _ ya).trans a3
      have E6 := hide (E5.out.trans hb6)
      clear hb6 hc6 hf6 f0 f1 f2 f3 f4 f5 a0 a1 a2 a3 ya z5_0 z5_1 z5_2 z5_3
      go_upto_region 20 with (fail)
      go_wp2_with fail
      refine (HCA.out _ (XWR.out.trans E6.out)).mono ?_
      rintro e w7 ⟨rfl, hb7⟩
      have hz7 := hb7.size
      have zz0 : w.heap.size < w6.heap.size := by omega
      have zz1 : wr.heap.size < w6.heap.size := by omega
      have zz2 : wr.heap.size + 1 < w6.heap.size := by omega
      have h0 := (hb7.cell (p := ⟨w.heap.size, 0, none⟩) zz0).trans h0'
      have h1 := (hb7.cell (p := ⟨w.heap.size, 1, none⟩) zz0).trans h1'
      have h2 := (hb7.cell (p := ⟨w.heap.size, 2, none⟩) zz0).trans h2'
      have t0 := (hb7.cell (p := ⟨wr.heap.size, 0, none⟩) zz1).trans c0
      have t1 := (hb7.cell (p := ⟨wr.heap.size, 1, none⟩) zz1).trans c1
      have t2 := (hb7.cell (p := ⟨wr.heap.size + 1, 0, none⟩) zz2).trans c2
      have t3 := (hb7.cell (p := ⟨wr.heap.size + 1, 1, none⟩) zz2).trans c3
      have E7 := hide (E6.out.trans hb7)
      clear hb7 h0' h1' h2' c0 c1 c2 c3
      by_cases ho : opB l W B k = true
      · have hcc : 0 < ca ∧ 0 < cb := by rw [HOP.out] at ho; simpa using ho
        have y1 : decide (0 < ca) = true := by simpa using hcc.1
        have y2 : decide (0 < cb) = true := by simpa using hcc.2
        have HO := hide ho
        clear hcc ho
        go_wp2_with fail
        refine (HCB.out _ (XWR.out.trans E7.out)).mono ?_
        rintro e w8 ⟨rfl, hb8⟩
        have hz8 := hb8.size
        have zz3 : wr.heap.size < w7.heap.size := by omega
        have zz4 : wr.heap.size + 1 < w7.heap.size := by omega
        have s0 := (hb8.cell (p := ⟨wr.heap.size, 0, none⟩) zz3).trans t0
        have s1 := (hb8.cell (p := ⟨wr.heap.size, 1, none⟩) zz3).trans t1
        have s2 := (hb8.cell (p := ⟨wr.heap.size + 1, 0, none⟩) zz4).trans t2
        have s3 := (hb8.cell (p := ⟨wr.heap.size + 1, 1, none⟩) zz4).trans t3
        have zz5 : wr.heap.size < w8.heap.size := by omega
        have zz6 : wr.heap.size + 1 < w8.heap.size := by omega
        have XL := hide (XR.out.trans (E7.out.trans hb8))
        clear hb8 t0 t1 t2 t3 h0 h1 h2
        by_cases hs : sv = 0
        · subst hs
          have ES := hide (show since1 0 = 1 from rfl)
          by_cases hm : m < L.length
          · obtain ⟨bL, oL, rfl, hbL, hPL⟩ := pairs_of HVL.out (by omega)
            obtain ⟨p1, p2, p3, p4⟩ := (hPL.ext hbL XL.out) m hm
            obtain ⟨⟨⟨ax, ay⟩, ⟨bx, bY⟩⟩, hLm⟩ : ∃ q, L[m] = q := ⟨_, rfl⟩
            rw [hLm] at p1 p2 p3 p4
            simp only at p1 p2 p3 p4
            have HLM := hide (show L[m]? = some ((ax, ay), (bx, bY)) by rw [List.getElem?_eq_getElem hm, hLm])
            have hzL := XL.out.size
            have zbL : bL < w8.heap.size := by omega
            have hq1 := fun w => eq_cell (ax, ay) (px, py) w
            have hq2 := fun w => eq_cell (bx, bY) (rx, ry) w
            simp only at hq1 hq2
            clear hLm hPL hzL
            by_cases hA : (ax, ay) = (px, py)
            · have tA : cellB (ax, ay) (px, py) = true := by rw [cellB_eq]; simpa using hA
              rw [tA] at hq1
              have HA := hide hA
              by_cases hB : (bx, bY) = (rx, ry)
              · have tB : cellB (bx, bY) (rx, ry) = true := by rw [cellB_eq]; simpa using hB
                rw [tB] at hq2
                obtain ⟨n2, hal⟩ := along_hit AL.out hlt HO.out HNE.out (by rw [HLM.out, HEP.out, HA.out, hB])
                have HAL2 := hide hal
                rw [ES.out] at n2
                clear hA hB tA tB hal
                go_wp2
                go_quiet (fail)
                go_wp2
                go_roundw
                case rel => exact ⟨k + 1, m + 1, 2, by omega, by go_num, by go_num, rfl, hm, HAL2.out, XL.out.trans (by (with_reducible (repeat' (first | exact Ext.refl _ | assumption | refine Ext.drew ?_ | refine Ext.drewN ?_ _ | refine Ext.alloc ?_ _ | refine Ext.setCell ?_ ?_ _ | refine Ext.trans ?_ (by assumption)))); all_goals (first | (simp; done) | (simp; omega)))⟩
                case measure => simp [intOf]; omega
              · have tB : cellB (bx, bY) (rx, ry) = false := by rw [cellB_eq]; simpa using hB
                rw [tB] at hq2
                have HBN := hide hB
                clear hA hB tA tB
                go_wp2
                go_quiet (fail)
                go_wp2
                go_roundw
                case rel => exact ⟨k + 1, m, since1 0, by omega, by go_num, rfl, by rw [ES.out], hmL, along_miss AL.out hlt HO.out (fun h => by rw [HLM.out, HEP.out] at h; exact HBN.out (congrArg Prod.snd (Option.some.inj h))), XL.out.trans (by (with_reducible (repeat' (first | exact Ext.refl _ | assumption | refine Ext.drew ?_ | refine Ext.drewN ?_ _ | refine Ext.alloc ?_ _ | refine Ext.setCell ?_ ?_ _ | refine Ext.trans ?_ (by assumption)))); all_goals (first | (simp; done) | (simp; omega)))⟩
                case measure => simp [intOf]; omega
            · have tA : cellB (ax, ay) (px, py) = false := by rw [cellB_eq]; simpa using hA
              rw [tA] at hq1
              have HAN := hide hA
              clear hA tA
              go_wp2
              go_quiet (fail)
              go_wp2
              go_roundw
              case rel => exact ⟨k + 1, m, since1 0, by omega, by go_num, rfl, by rw [ES.out], hmL, along_miss AL.out hlt HO.out (fun h => by rw [HLM.out, HEP.out] at h; exact HAN.out (congrArg Prod.fst (Option.some.inj h))), XL.out.trans (by (with_reducible (repeat' (first | exact Ext.refl _ | assumption | refine Ext.drew ?_ | refine Ext.drewN ?_ _ | refine Ext.alloc ?_ _ | refine Ext.setCell ?_ ?_ _ | refine Ext.trans ?_ (by assumption)))); all_goals (first | (simp; done) | (simp; omega)))⟩
              case measure => simp [intOf]; omega
          · have hm' : L.length ≤ m := by omega
            go_wp2
            go_quiet (fail)
            go_wp2
            go_roundw
            case rel => exact ⟨k + 1, m, since1 0, by omega, by go_num, rfl, by rw [ES.out], hmL, along_miss AL.out hlt HO.out (fun h => by rw [List.getElem?_eq_none hm'] at h; cases h), XL.out.trans (by (with_reducible (repeat' (first | exact Ext.refl _ | assumption | refine Ext.drew ?_ | refine Ext.drewN ?_ _ | refine Ext.alloc ?_ _ | refine Ext.setCell ?_ ?_ _ | refine Ext.trans ?_ (by assumption)))); all_goals (first | (simp; done) | (simp; omega)))⟩
            case measure => simp [intOf]; omega
        · have y3 : (sv == 0) = false := by simpa using hs
          have ES := hide (show since1 sv = sv by rw [since1, if_neg hs])
          clear hs
          by_cases hm : m < L.length
          · obtain ⟨bL, oL, rfl, hbL, hPL⟩ := pairs_of HVL.out (by omega)
            obtain ⟨p1, p2, p3, p4⟩ := (hPL.ext hbL XL.out) m hm
            obtain ⟨⟨⟨ax, ay⟩, ⟨bx, bY⟩⟩, hLm⟩ : ∃ q, L[m] = q := ⟨_, rfl⟩
            rw [hLm] at p1 p2 p3 p4
            simp only at p1 p2 p3 p4
            have HLM := hide (show L[m]? = some ((ax, ay), (bx, bY)) by rw [List.getElem?_eq_getElem hm, hLm])
            have hzL := XL.out.size
            have zbL : bL < w8.heap.size := by omega
            have hq1 := fun w => eq_cell (ax, ay) (px, py) w
            have hq2 := fun w => eq_cell (bx, bY) (rx, ry) w
            simp only at hq1 hq2
            clear hLm hPL hzL
            by_cases hA : (ax, ay) = (px, py)
            · have tA : cellB (ax, ay) (px, py) = true := by rw [cellB_eq]; simpa using hA
              rw [tA] at hq1
              have HA := hide hA
              by_cases hB : (bx, bY) = (rx, ry)
              · have tB : cellB (bx, bY) (rx, ry) = true := by rw [cellB_eq]; simpa using hB
                rw [tB] at hq2
                obtain ⟨n2, hal⟩ := along_hit AL.out hlt HO.out HNE.out (by rw [HLM.out, HEP.out, HA.out, hB])
                have HAL2 := hide hal
                rw [ES.out] at n2
                clear hA hB tA tB hal
                go_wp2
                go_quiet (fail)
                go_wp2
                go_roundw
                case rel => exact ⟨k + 1, m + 1, 2, by omega, by go_num, by go_num, rfl, hm, HAL2.out, XL.out.trans (by (with_reducible (repeat' (first | exact Ext.refl _ | assumption | refine Ext.drew ?_ | refine Ext.drewN ?_ _ | refine Ext.alloc ?_ _ | refine Ext.setCell ?_ ?_ _ | refine Ext.trans ?_ (by assumption)))); all_goals (first | (simp; done) | (simp; omega)))⟩
                case measure => simp [intOf]; omega
              · have tB : cellB (bx, bY) (rx, ry) = false := by rw [cellB_eq]; simpa using hB
                rw [tB] at hq2
                have HBN := hide hB
                clear hA hB tA tB
                go_wp2
                go_quiet (fail)
                go_wp2
                go_roundw
                case rel => exact ⟨k + 1, m, since1 sv, by omega, by go_num, rfl, by rw [ES.out], hmL, along_miss AL.out hlt HO.out (fun h => by rw [HLM.out, HEP.out] at h; exact HBN.out (congrArg Prod.snd (Option.some.inj h))), XL.out.trans (by (with_reducible (repeat' (first | exact Ext.refl _ | assumption | refine Ext.drew ?_ | refine Ext.drewN ?_ _ | refine Ext.alloc ?_ _ | refine Ext.setCell ?_ ?_ _ | refine Ext.trans ?_ (by assumption)))); all_goals (first | (simp; done) | (simp; omega)))⟩
                case measure => simp [intOf]; omega
            · have tA : cellB (ax, ay) (px, py) = false := by rw [cellB_eq]; simpa using hA
              rw [tA] at hq1
              have HAN := hide hA
              clear hA tA
              go_wp2
              go_quiet (fail)
              go_wp2
              go_roundw
              case rel => exact ⟨k + 1, m, since1 sv, by omega, by go_num, rfl, by rw [ES.out], hmL, along_miss AL.out hlt HO.out (fun h => by rw [HLM.out, HEP.out] at h; exact HAN.out (congrArg Prod.fst (Option.some.inj h))), XL.out.trans (by (with_reducible (repeat' (first | exact Ext.refl _ | assumption | refine Ext.drew ?_ | refine Ext.drewN ?_ _ | refine Ext.alloc ?_ _ | refine Ext.setCell ?_ ?_ _ | refine Ext.trans ?_ (by assumption)))); all_goals (first | (simp; done) | (simp; omega)))⟩
              case measure => simp [intOf]; omega
          · have hm' : L.length ≤ m := by omega
            go_wp2
            go_quiet (fail)
            go_wp2
            go_roundw
            case rel => exact ⟨k + 1, m, since1 sv, by omega, by go_num, rfl, by rw [ES.out], hmL, along_miss AL.out hlt HO.out (fun h => by rw [List.getElem?_eq_none hm'] at h; cases h), XL.out.trans (by (with_reducible (repeat' (first | exact Ext.refl _ | assumption | refine Ext.drew ?_ | refine Ext.drewN ?_ _ | refine Ext.alloc ?_ _ | refine Ext.setCell ?_ ?_ _ | refine Ext.trans ?_ (by assumption)))); all_goals (first | (simp; done) | (simp; omega)))⟩
            case measure => simp [intOf]; omega
      · have ho' : opB l W B k = false := by simpa using ho
        obtain ⟨ns, hal⟩ := along_shut AL.out hlt ho'
        have HA := hide hal
        have hcc : ca ≤ 0 ∨ (0 < ca ∧ cb ≤ 0) := by
          rw [HOP.out] at ho
          simp at ho
          omega
        clear ho ho' hal AL
        rcases hcc with hcc | ⟨hc1, hc2⟩
        · have y1 : decide (0 < ca) = false := by simp; omega
          clear hcc
          go_wp2_with fail
          go_roundw
          case rel => exact ⟨k + 1, m, 0, by omega, by go_num, rfl, rfl, hmL, HA.out, XR.out.trans (E7.out.trans (by (with_reducible (repeat' (first | exact Ext.refl _ | assumption | refine Ext.drew ?_ | refine Ext.drewN ?_ _ | refine Ext.alloc ?_ _ | refine Ext.setCell ?_ ?_ _ | refine Ext.trans ?_ (by assumption)))); all_goals (first | (simp; done) | (simp; omega))))⟩
          case measure => simp [intOf]; omega
        · have y1 : decide (0 < ca) = true := by simp; omega
          have y2 : decide (0 < cb) = false := by simp; omega
          clear hc1 hc2
          go_wp2_with fail
          refine (HCB.out _ (XWR.out.trans E7.out)).mono ?_
          rintro e w8 ⟨rfl, hb8⟩
          go_wp2_with fail
          go_roundw
          case rel => exact ⟨k + 1, m, 0, by omega, by go_num, rfl, rfl, hmL, HA.out, XR.out.trans (E7.out.trans (by (with_reducible (repeat' (first | exact Ext.refl _ | assumption | refine Ext.drew ?_ | refine Ext.drewN ?_ _ | refine Ext.alloc ?_ _ | refine Ext.setCell ?_ ?_ _ | refine Ext.trans ?_ (by assumption)))); all_goals (first | (simp; done) | (simp; omega))))⟩
          case measure => simp [intOf]; omega
    · obtain rfl : k = B.length := by omega
      obtain ⟨rfl, ns⟩ := along_end AL.out hmL
      have XR := hide hxr
      have ns' : (sv != 1) = true := by rw [bne, ns]; rfl
      clear hxr AL
      go_wp2_with (go_at_call 16; refine (awake12_any _).mono ?_; rintro e w8 ⟨rfl, hb8⟩; obtain ⟨hc8, hf8⟩ := hb8.cells; have hz8 := hb8.size; (repeat (first | rw [World.size_alloc] at hz8 | rw [World.size_drew] at hz8)))
      go_ret
      exact ⟨rfl, (X4.out.trans XR.out).trans (by (with_reducible (repeat' (first | exact Ext.refl _ | assumption | refine Ext.drew ?_ | refine Ext.drewN ?_ _ | refine Ext.alloc ?_ _ | refine Ext.setCell ?_ ?_ _ | refine Ext.trans ?_ (by assumption)))); all_goals (first | (simp; done) | (simp; omega)))⟩
end Go.Proofs.Ytkonojjillcfiaa
