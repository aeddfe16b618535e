/- The walk of SessPlays. -/
import Derived.Test.YtifbmapianddcaaTokP
import Derived.Deep.CutBlock
import Derived.Test.YtifbmapianddcaaActsI
set_option linter.all false
set_option linter.unusedVariables false
set_option linter.unusedSimpArgs false
namespace Go.Proofs.Ytifbmapianddcaa
open Go.RowKit

set_option maxRecDepth 100000 in
theorem plays_no (most : Int) (lv : Value) (w : World) (h : most < 1 ∨ 4 < most) : Calls Try.prog 10 #[.int .i64 most, lv] w fun e w' => e = .returned (.bool true) ∧ Ext w w' := by
  rcases h with h | h
  all_goals
    go_enter Try.func10, Try.ntmps10
    go_wp2_with (first
      | (go_at_call 38; refine (sNew_no most _ (by omega)).mono ?_; rintro e w' ⟨rfl, rfl⟩)
      | (go_at_call 39; refine (awake21_any _).mono ?_; rintro e w1 ⟨rfl, hb1⟩; obtain ⟨hc1, hf1⟩ := hb1.cells; have hz1 := hb1.size; (repeat (first | rw [World.size_alloc] at hz1 | rw [World.size_drew] at hz1))))
    go_ret
    exact ⟨rfl, (by (with_reducible (repeat' (first | exact Ext.refl _ | assumption | refine Ext.drew ?_ | refine Ext.drewN ?_ _ | refine Ext.alloc ?_ _ | refine Ext.setCell ?_ ?_ _ | refine Ext.trans ?_ (by assumption)))); all_goals (first | (simp; done) | (simp; omega)))⟩

set_option maxRecDepth 100000 in
theorem plays_long (most : Int) (a : Option Addr) (q c : Nat) (w : World) (h1 : 1 ≤ most) (h2 : most ≤ 4) (hq : (300 : Int) < (q : Int)) : Calls Try.prog 10 #[.int .i64 most, .slice a q c] w fun e w' => e = .returned (.bool true) ∧ Ext w w' := by
  go_enter Try.func10, Try.ntmps10
  go_wp2_with (first
    | (go_at_call 38; refine (iNew most _ h1 h2).mono ?_; rintro x w1 ⟨d, n, e, rfl, i1⟩; have I1 := hide i1; clear i1)
    | (go_at_call 39; refine (awake21_any _).mono ?_; rintro e w2 ⟨rfl, hb2⟩; obtain ⟨hc2, hf2⟩ := hb2.cells; have hz2 := hb2.size; (repeat (first | rw [World.size_alloc] at hz2 | rw [World.size_drew] at hz2))))
  go_ret
  exact ⟨rfl, Ext.trans I1.out.bel (by (with_reducible (repeat' (first | exact Ext.refl _ | assumption | refine Ext.drew ?_ | refine Ext.drewN ?_ _ | refine Ext.alloc ?_ _ | refine Ext.setCell ?_ ?_ _ | refine Ext.trans ?_ (by assumption)))); all_goals (first | (simp; done) | (simp; omega)))⟩


set_option maxRecDepth 100000 in
set_option maxHeartbeats 4000000 in
theorem plays_plays (most : Int) (b off c : Nat) (l : List (Int × Int)) (w : World) (h1 : 1 ≤ most) (h2 : most ≤ 4) (hl : (l.length : Int) ≤ 300) (hb : b < w.heap.size) (hA : ActsAt' w b off l) (hU : ∀ k (h : k < l.length), U64 l[k].2) :
    Calls Try.prog 10 #[.int .i64 most, .slice (some ⟨b, off, none⟩) l.length c] w fun e w' => e = .returned (.bool true) ∧ Ext w w' := by
  have HA := hide hA
  have HU := hide hU
  clear hA hU
  go_enter Try.func10, Try.ntmps10
  go_upto_region 7 with (go_at_call 38; refine (iNew most _ h1 h2).mono ?_; rintro x w1 ⟨d, n, e, rfl, i1⟩; have I1 := hide i1; clear i1)
  have S0 := hide (Pair.start I1.out h1)
  obtain ⟨w2, hw2⟩ : ∃ w2, w1.alloc (.cells #[.int .i64 most, .slice none 0 0, .slice none 0 0, .slice none 0 0] 85) = w2 := ⟨_, rfl⟩
  rw [hw2] at S0 ⊢
  obtain ⟨d2, hd2⟩ : ∃ d2, w1.heap.size = d2 := ⟨_, rfl⟩
  rw [hd2] at S0 ⊢
  clear hw2 hd2 I1
  go_wp2_with fail
  go_loopw [8] (fun i wr => ∃ k : Nat, k ≤ l.length ∧ i = .int .i64 k ∧ Playing w.heap.size w wr d n e d2 most k) (fun i _ => l.length - (intOf i).toNat)
  case atStart => exact ⟨0, Nat.zero_le _, rfl, S0.out⟩
  case round =>
    obtain ⟨k, hk, rfl, row, ever, now, F, hP, hf, hB, hbz, hF⟩ := hrel
    have HP := hide hP
    have HFr := hide hf
    have HB := hide hB
    have HFF := hide hF
    have hx : Ext w wr := hB
    have r1 := hf.fe
    have r2 := hf.fn
    have r3 := hf.fr
    clear S0 hP hf hB hF
    by_cases hlt : k < l.length
    · obtain ⟨d0, d1⟩ := HA.out k hlt
      have e0 := (hx.cell (p := ⟨b, off + k * 2, none⟩) hb).trans d0
      have e1 := (hx.cell (p := ⟨b, off + k * 2 + 1, none⟩) hb).trans d1
      have UX := hide (HU.out k hlt)
      generalize l[k].1 = kd at *
      generalize l[k].2 = x at *
      clear d0 d1 hx
      go_upto_block 2 with (fail)
      go_cut [] (fun wx => Playing w.heap.size w wx d n e d2 most (k + 1))
      case first =>
        as_aux_lemma =>
          by_cases k0 : kd = 0
          · subst k0
            by_cases hr : (row.length : Int) < 1024
            · have C1 := hide (HP.out.desk (fun v D => sDraw_ok D hr x UX.out))
              go_wp2_with fail
              refine C1.out.mono ?_
              rintro r w2 ⟨rfl, F2, P2, t2, f2⟩
              have Q2 := hide P2
              have T2 := hide (And.intro t2 f2)
              have C2 := hide (P2.ref (fun vr vn ve R => rkDraw_ok R hr x))
              clear P2 t2 f2 C1
              go_wp2_with fail
              refine C2.out.mono ?_
              rintro r w3 ⟨rfl, W3⟩
              have H3 := hide (Playing.step hbz HB.out HFF.out (Went.trans T2.out W3) (HFr.out.draw UX.out hr))
              clear W3 C2
              go_wp2
              go_meet
              exact H3.out
            · have C1 := hide (HP.out.desk_same (fun v D => sDraw_full D (by omega) x))
              go_wp2_with fail
              refine C1.out.mono ?_
              rintro r w2 ⟨rfl, F2, P2, t2, f2⟩
              have Q2 := hide P2
              have T2 := hide (And.intro t2 f2)
              have C2 := hide (P2.ref (fun vr vn ve R => rkDraw_full R (by omega) x))
              clear P2 t2 f2 C1
              go_wp2_with fail
              refine C2.out.mono ?_
              rintro r w3 ⟨rfl, W3⟩
              have H3 := hide (Playing.step hbz HB.out HFF.out (Went.trans T2.out W3) HFr.out.more)
              clear W3 C2
              go_wp2
              go_meet
              exact H3.out
          · by_cases k1 : kd = 1
            · subst k1
              by_cases hm : most ≤ (now.length : Int)
              · have C1 := hide (HP.out.desk_ext (fun v D => sOpen_full D hm))
                go_wp2_with fail
                refine C1.out.mono ?_
                rintro r9 w2 ⟨rfl, F2, P2, t2, f2⟩
                have T2 := hide (And.intro t2 f2)
                have C2 := hide (P2.ref (fun vr vn ve R => rkOpen_full R hm))
                clear P2 t2 f2 C1
                go_wp2_with fail
                refine C2.out.mono ?_
                rintro r9 w3 ⟨rfl, W3⟩
                have H3 := hide (Playing.step hbz HB.out HFF.out (Went.trans T2.out W3) (HFr.out.more))
                clear W3 C2
                go_wp2
                go_meet
                exact H3.out
              · have hm' : (now.length : Int) < most := by omega
                rcases row with _ | ⟨t, r⟩
                · have C1 := hide (HP.out.desk_ext (fun v D => sOpen_none D hm'))
                  go_wp2_with fail
                  refine C1.out.mono ?_
                  rintro r9 w2 ⟨rfl, F2, P2, t2, f2⟩
                  have T2 := hide (And.intro t2 f2)
                  have C2 := hide (P2.ref (fun vr vn ve R => rkOpen_none R hm'))
                  clear P2 t2 f2 C1
                  go_wp2_with fail
                  refine C2.out.mono ?_
                  rintro r9 w3 ⟨rfl, W3⟩
                  have H3 := hide (Playing.step hbz HB.out HFF.out (Went.trans T2.out W3) (HFr.out.more))
                  clear W3 C2
                  go_wp2
                  go_meet
                  exact H3.out
                · simp only [List.length_cons] at r3
                  by_cases ht : t ∈ ever ∨ t = 0
                  · have HT := hide ht
                    clear ht
                    have C1 := hide (HP.out.desk (fun v D => sOpen_retry D hm' (by omega) HT.out))
                    go_wp2_with fail
                    refine C1.out.mono ?_
                    rintro r9 w2 ⟨rfl, F2, P2, t2, f2⟩
                    have T2 := hide (And.intro t2 f2)
                    have C2 := hide (P2.ref (fun vr vn ve R => rkOpen_retry R hm' (by omega) HT.out))
                    clear P2 t2 f2 C1
                    go_wp2_with fail
                    refine C2.out.mono ?_
                    rintro r9 w3 ⟨rfl, W3⟩
                    have H3 := hide (Playing.step hbz HB.out HFF.out (Went.trans T2.out W3) (HFr.out.retry))
                    clear W3 C2
                    go_wp2
                    go_meet
                    exact H3.out
                  · have HT := hide (show t ∉ ever from fun h => ht (.inl h))
                    have ht0 : (t == 0) = false := by simp; exact fun h => ht (.inr h)
                    clear ht
                    have C1 := hide (HP.out.desk (fun v D => sOpen_ok D hm' (by omega) (by omega) HT.out ht0))
                    go_wp2_with fail
                    refine C1.out.mono ?_
                    rintro r9 w2 ⟨rfl, F2, P2, t2, f2⟩
                    have T2 := hide (And.intro t2 f2)
                    have C2 := hide (P2.ref (fun vr vn ve R => rkOpen_ok R hm' (by omega) (by omega) HT.out ht0))
                    clear P2 t2 f2 C1
                    go_wp2_with fail
                    refine C2.out.mono ?_
                    rintro r9 w3 ⟨rfl, W3⟩
                    have H3 := hide (Playing.step hbz HB.out HFF.out (Went.trans T2.out W3) (HFr.out.opened hm'))
                    clear W3 C2
                    go_wp2
                    go_meet
                    exact H3.out
            · by_cases k2 : kd = 2
              · subst k2
                by_cases hx : x ∈ now
                · have HX := hide hx
                  clear hx
                  have C1 := hide (HP.out.desk (fun v D => sClose_ok D x UX.out HX.out))
                  go_wp2_with fail
                  refine C1.out.mono ?_
                  rintro r9 w2 ⟨rfl, F2, P2, t2, f2⟩
                  have T2 := hide (And.intro t2 f2)
                  have C2 := hide (P2.ref (fun vr vn ve R => rkClose_ok R (by omega) x HX.out))
                  clear P2 t2 f2 C1
                  go_wp2_with fail
                  refine C2.out.mono ?_
                  rintro r9 w3 ⟨rfl, W3⟩
                  have H3 := hide (Playing.step hbz HB.out HFF.out (Went.trans T2.out W3) (HFr.out.shut x))
                  clear W3 C2
                  go_wp2
                  go_meet
                  exact H3.out
                · have HX := hide hx
                  clear hx
                  have C1 := hide (HP.out.desk_same (fun v D => sClose_no D x UX.out HX.out))
                  go_wp2_with fail
                  refine C1.out.mono ?_
                  rintro r9 w2 ⟨rfl, F2, P2, t2, f2⟩
                  have T2 := hide (And.intro t2 f2)
                  have C2 := hide (P2.ref (fun vr vn ve R => rkClose_no R (by omega) x HX.out))
                  clear P2 t2 f2 C1
                  go_wp2_with fail
                  refine C2.out.mono ?_
                  rintro r9 w3 ⟨rfl, W3⟩
                  have H3 := hide (Playing.step hbz HB.out HFF.out (Went.trans T2.out W3) (HFr.out.more))
                  clear W3 C2
                  go_wp2
                  go_meet
                  exact H3.out
              · have H3 := hide (show Playing w.heap.size w wr d n e d2 most (k + 1) from ⟨_, _, _, _, HP.out, HFr.out.more, HB.out, hbz, HFF.out⟩)
                go_wp2
                go_meet
                exact H3.out
      case rest =>
        as_aux_lemma =>
          clear HP HFr HB HFF r1 r2 r3 hbz e0 e1
          obtain ⟨row, ever, now, F, hP, hf, hB, hbz, hF⟩ := hcut
          have HPl := hide (show Playing w.heap.size w wc d n e d2 most (k + 1) from ⟨_, _, _, _, hP, hf, hB, hbz, hF⟩)
          obtain ⟨v, vr, vn, ve, D, R, _, _⟩ := hP
          obtain ⟨ar, cr, rfl⟩ := R.row.slice
          obtain ⟨an, cn, rfl⟩ := R.now.slice
          have r1 := hf.fe
          have r2 := hf.fn
          have r3 := hf.fr
          have b1 : wc.cell? ⟨d2, 1, none⟩ = some (.slice ar row.length cr) := R.blk.cell 1
          have b2 : wc.cell? ⟨d2, 2, none⟩ = some (.slice an now.length cn) := R.blk.cell 2
          have zd : d2 < wc.heap.size := R.blk.lt
          have HD := hide D
          have HN := hide R.now.reads
          have HT := hide (fun W (xw : Ext wc W) => sTokens_any (D.ext xw) hf.un (by omega))
          clear D R hf hB hF
          by_cases hxn : x ∈ now
          · have HX := hide (show decide (x ∈ now) = true by simpa using hxn)
            obtain ⟨q, hq, _, _⟩ := findI_yes hxn
            have HQ := hide hq
            clear hq hxn
            go_wp2_with fail
            refine seqH_start (S := (fun W => (∀ b o, b < wc.heap.size → W.cell? ⟨b, o, none⟩ = wc.cell? ⟨b, o, none⟩) ∧ Ext wc W)) [(0, true), (1, true), (3, true), (4, true), (5, true), (6, true), (7, true), (2, false), (8, false), (9, true), (10, true), (11, true), (12, true), (14, true), (15, true), (16, true), (17, true), (18, true), (13, false), (19, true), (20, true), (21, true), (22, true), (24, true), (25, true), (26, true), (27, true), (28, true), (23, false), (29, true), (30, true), (31, true), (32, true), (34, true), (35, true), (36, true), (37, true), (33, false), (38, false), (39, true), (40, true)] (by kernel_rfl) (by kernel_rfl) (by kernel_rfl) (by decide) (fun _ _ d _ _ h => by cases d <;> exact h) (by first | with_reducible exact pr_start _ | exact pr_of (by (with_reducible (repeat' (first | exact Ext.refl _ | assumption | refine Ext.drew ?_ | refine Ext.drewN ?_ _ | refine Ext.alloc ?_ _ | refine Ext.setCell ?_ ?_ _ | refine Ext.trans ?_ (by assumption)))); all_goals (first | (simp; done) | (simp; omega)))) (fun hHeld => ?_)
            iterate 7 (apply SeqH.free; (· (simp only [List.getElem?_toArray, List.getElem?_cons_succ, List.getElem?_cons_zero]; rfl)); (· first | exact Or.inr ⟨by rfl, rfl⟩ | (refine Or.inl ⟨by rfl, ?_⟩; intro w hSw; (try dsimp only at hSw); go_simp; try with_reducible rfl)); try simp only [Act.put, List.setIfInBounds_toArray, List.set_cons_zero, List.set_cons_succ])
            (apply SeqH.step; (· (simp only [List.getElem?_toArray, List.getElem?_cons_succ, List.getElem?_cons_zero]; rfl)); intro K hK; go_simp; refine (sHas_any (HD.out.ext (by (with_reducible (repeat' (first | exact Ext.refl _ | assumption | refine Ext.drew ?_ | refine Ext.drewN ?_ _ | refine Ext.alloc ?_ _ | refine Ext.setCell ?_ ?_ _ | refine Ext.trans ?_ (by assumption)))); all_goals (first | (simp; done) | (simp; omega)))) x UX.out).mono ?_; rintro e9 w9 ⟨rfl, rfl⟩; rw [HX.out]; go_wp2_with fail; refine hK.out _ _ (pr_of (by (with_reducible (repeat' (first | exact Ext.refl _ | assumption | refine Ext.drew ?_ | refine Ext.drewN ?_ _ | refine Ext.alloc ?_ _ | refine Ext.setCell ?_ ?_ _ | refine Ext.trans ?_ (by assumption)))); all_goals (first | (simp; done) | (simp; omega)))) (fun hHeld => ?_); clear hK K; try simp only [Act.put, List.setIfInBounds_toArray, List.set_cons_zero, List.set_cons_succ])
            (apply SeqH.step; (· (simp only [List.getElem?_toArray, List.getElem?_cons_succ, List.getElem?_cons_zero]; rfl)); intro K hK; go_simp; refine (rkFind_any x _ now _ (by omega) (HN.out.ext (by (with_reducible (repeat' (first | exact Ext.refl _ | assumption | refine Ext.drew ?_ | refine Ext.drewN ?_ _ | refine Ext.alloc ?_ _ | refine Ext.setCell ?_ ?_ _ | refine Ext.trans ?_ (by assumption)))); all_goals (first | (simp; done) | (simp; omega))))).mono ?_; rintro e9 w9 ⟨rfl, rfl⟩; rw [HQ.out]; go_wp2_with fail; refine hK.out _ _ (pr_of (by (with_reducible (repeat' (first | exact Ext.refl _ | assumption | refine Ext.drew ?_ | refine Ext.drewN ?_ _ | refine Ext.alloc ?_ _ | refine Ext.setCell ?_ ?_ _ | refine Ext.trans ?_ (by assumption)))); all_goals (first | (simp; done) | (simp; omega)))) (fun hHeld => ?_); clear hK K; try simp only [Act.put, List.setIfInBounds_toArray, List.set_cons_zero, List.set_cons_succ])
            iterate 9 (apply SeqH.free; (· (simp only [List.getElem?_toArray, List.getElem?_cons_succ, List.getElem?_cons_zero]; rfl)); (· first | exact Or.inr ⟨by rfl, rfl⟩ | (refine Or.inl ⟨by rfl, ?_⟩; intro w hSw; (try dsimp only at hSw); go_simp; try with_reducible rfl)); try simp only [Act.put, List.setIfInBounds_toArray, List.set_cons_zero, List.set_cons_succ])
            (apply SeqH.step; (· (simp only [List.getElem?_toArray, List.getElem?_cons_succ, List.getElem?_cons_zero]; rfl)); intro K hK; go_simp; refine (sCount_any (HD.out.ext (by (with_reducible (repeat' (first | exact Ext.refl _ | assumption | refine Ext.drew ?_ | refine Ext.drewN ?_ _ | refine Ext.alloc ?_ _ | refine Ext.setCell ?_ ?_ _ | refine Ext.trans ?_ (by assumption)))); all_goals (first | (simp; done) | (simp; omega))))).mono ?_; rintro e9 w9 ⟨rfl, rfl⟩; go_wp2_with fail; refine hK.out _ _ (pr_of (by (with_reducible (repeat' (first | exact Ext.refl _ | assumption | refine Ext.drew ?_ | refine Ext.drewN ?_ _ | refine Ext.alloc ?_ _ | refine Ext.setCell ?_ ?_ _ | refine Ext.trans ?_ (by assumption)))); all_goals (first | (simp; done) | (simp; omega)))) (fun hHeld => ?_); clear hK K; try simp only [Act.put, List.setIfInBounds_toArray, List.set_cons_zero, List.set_cons_succ])
            iterate 9 (apply SeqH.free; (· (simp only [List.getElem?_toArray, List.getElem?_cons_succ, List.getElem?_cons_zero]; rfl)); (· first | exact Or.inr ⟨by rfl, rfl⟩ | (refine Or.inl ⟨by rfl, ?_⟩; intro w hSw; (try dsimp only at hSw); go_simp; try with_reducible rfl)); try simp only [Act.put, List.setIfInBounds_toArray, List.set_cons_zero, List.set_cons_succ])
            (apply SeqH.step; (· (simp only [List.getElem?_toArray, List.getElem?_cons_succ, List.getElem?_cons_zero]; rfl)); intro K hK; go_simp; refine (sLeft_any (HD.out.ext (by (with_reducible (repeat' (first | exact Ext.refl _ | assumption | refine Ext.drew ?_ | refine Ext.drewN ?_ _ | refine Ext.alloc ?_ _ | refine Ext.setCell ?_ ?_ _ | refine Ext.trans ?_ (by assumption)))); all_goals (first | (simp; done) | (simp; omega))))).mono ?_; rintro e9 w9 ⟨rfl, rfl⟩; go_wp2_with fail; refine hK.out _ _ (pr_of (by (with_reducible (repeat' (first | exact Ext.refl _ | assumption | refine Ext.drew ?_ | refine Ext.drewN ?_ _ | refine Ext.alloc ?_ _ | refine Ext.setCell ?_ ?_ _ | refine Ext.trans ?_ (by assumption)))); all_goals (first | (simp; done) | (simp; omega)))) (fun hHeld => ?_); clear hK K; try simp only [Act.put, List.setIfInBounds_toArray, List.set_cons_zero, List.set_cons_succ])
            iterate 8 (apply SeqH.free; (· (simp only [List.getElem?_toArray, List.getElem?_cons_succ, List.getElem?_cons_zero]; rfl)); (· first | exact Or.inr ⟨by rfl, rfl⟩ | (refine Or.inl ⟨by rfl, ?_⟩; intro w hSw; (try dsimp only at hSw); go_simp; try with_reducible rfl)); try simp only [Act.put, List.setIfInBounds_toArray, List.set_cons_zero, List.set_cons_succ])
            (apply SeqH.step; (· (simp only [List.getElem?_toArray, List.getElem?_cons_succ, List.getElem?_cons_zero]; rfl)); intro K hK; go_simp; refine (HT.out _ (by (with_reducible (repeat' (first | exact Ext.refl _ | assumption | refine Ext.drew ?_ | refine Ext.drewN ?_ _ | refine Ext.alloc ?_ _ | refine Ext.setCell ?_ ?_ _ | refine Ext.trans ?_ (by assumption)))); all_goals (first | (simp; done) | (simp; omega)))).mono ?_; rintro e9 w9 ⟨v9, rfl, x9, o9⟩; obtain ⟨a9, c9, rfl⟩ := o9.slice; have O9 := hide o9.reads; clear o9; go_wp2_with fail; refine hK.out _ _ (pr_of (by (with_reducible (repeat' (first | exact Ext.refl _ | assumption | refine Ext.drew ?_ | refine Ext.drewN ?_ _ | refine Ext.alloc ?_ _ | refine Ext.setCell ?_ ?_ _ | refine Ext.trans ?_ (by assumption)))); all_goals (first | (simp; done) | (simp; omega)))) (fun hHeld => ?_); clear hK K; try simp only [Act.put, List.setIfInBounds_toArray, List.set_cons_zero, List.set_cons_succ])
            (apply SeqH.step; (· (simp only [List.getElem?_toArray, List.getElem?_cons_succ, List.getElem?_cons_zero]; rfl)); intro K hK; go_simp; refine (tokens21_same _ _ now _ (by omega) (O9.out.ext (by (with_reducible (repeat' (first | exact Ext.refl _ | assumption | refine Ext.drew ?_ | refine Ext.drewN ?_ _ | refine Ext.alloc ?_ _ | refine Ext.setCell ?_ ?_ _ | refine Ext.trans ?_ (by assumption)))); all_goals (first | (simp; done) | (simp; omega)))) (HN.out.ext (by (with_reducible (repeat' (first | exact Ext.refl _ | assumption | refine Ext.drew ?_ | refine Ext.drewN ?_ _ | refine Ext.alloc ?_ _ | refine Ext.setCell ?_ ?_ _ | refine Ext.trans ?_ (by assumption)))); all_goals (first | (simp; done) | (simp; omega))))).mono ?_; rintro e8 w8 ⟨rfl, x8⟩; go_wp2_with fail; refine hK.out _ _ (pr_of (by (with_reducible (repeat' (first | exact Ext.refl _ | assumption | refine Ext.drew ?_ | refine Ext.drewN ?_ _ | refine Ext.alloc ?_ _ | refine Ext.setCell ?_ ?_ _ | refine Ext.trans ?_ (by assumption)))); all_goals (first | (simp; done) | (simp; omega)))) (fun hHeld => ?_); clear hK K; try simp only [Act.put, List.setIfInBounds_toArray, List.set_cons_zero, List.set_cons_succ])
            iterate 2 (apply SeqH.free; (· (simp only [List.getElem?_toArray, List.getElem?_cons_succ, List.getElem?_cons_zero]; rfl)); (· first | exact Or.inr ⟨by rfl, rfl⟩ | (refine Or.inl ⟨by rfl, ?_⟩; intro w hSw; (try dsimp only at hSw); go_simp; try with_reducible rfl)); try simp only [Act.put, List.setIfInBounds_toArray, List.set_cons_zero, List.set_cons_succ])
            refine SeqH.done ?_
            have H8 := hide hHeld.2
            go_wp2
            go_roundw
            case rel => exact ⟨k + 1, by omega, by go_num, HPl.out.ext H8.out⟩
            case measure => simp [intOf]; omega
          · have HX := hide (show decide (x ∈ now) = false by simpa using hxn)
            have HQ := hide (findI_no hxn)
            clear hxn
            go_wp2_with fail
            refine seqH_start (S := (fun W => (∀ b o, b < wc.heap.size → W.cell? ⟨b, o, none⟩ = wc.cell? ⟨b, o, none⟩) ∧ Ext wc W)) [(0, true), (1, true), (3, true), (4, true), (5, true), (6, true), (7, true), (2, false), (8, false), (9, true), (10, true), (11, true), (12, true), (14, true), (15, true), (16, true), (17, true), (18, true), (13, false), (19, true), (20, true), (21, true), (22, true), (24, true), (25, true), (26, true), (27, true), (28, true), (23, false), (29, true), (30, true), (31, true), (32, true), (34, true), (35, true), (36, true), (37, true), (33, false), (38, false), (39, true), (40, true)] (by kernel_rfl) (by kernel_rfl) (by kernel_rfl) (by decide) (fun _ _ d _ _ h => by cases d <;> exact h) (by first | with_reducible exact pr_start _ | exact pr_of (by (with_reducible (repeat' (first | exact Ext.refl _ | assumption | refine Ext.drew ?_ | refine Ext.drewN ?_ _ | refine Ext.alloc ?_ _ | refine Ext.setCell ?_ ?_ _ | refine Ext.trans ?_ (by assumption)))); all_goals (first | (simp; done) | (simp; omega)))) (fun hHeld => ?_)
            iterate 7 (apply SeqH.free; (· (simp only [List.getElem?_toArray, List.getElem?_cons_succ, List.getElem?_cons_zero]; rfl)); (· first | exact Or.inr ⟨by rfl, rfl⟩ | (refine Or.inl ⟨by rfl, ?_⟩; intro w hSw; (try dsimp only at hSw); go_simp; try with_reducible rfl)); try simp only [Act.put, List.setIfInBounds_toArray, List.set_cons_zero, List.set_cons_succ])
            (apply SeqH.step; (· (simp only [List.getElem?_toArray, List.getElem?_cons_succ, List.getElem?_cons_zero]; rfl)); intro K hK; go_simp; refine (sHas_any (HD.out.ext (by (with_reducible (repeat' (first | exact Ext.refl _ | assumption | refine Ext.drew ?_ | refine Ext.drewN ?_ _ | refine Ext.alloc ?_ _ | refine Ext.setCell ?_ ?_ _ | refine Ext.trans ?_ (by assumption)))); all_goals (first | (simp; done) | (simp; omega)))) x UX.out).mono ?_; rintro e9 w9 ⟨rfl, rfl⟩; rw [HX.out]; go_wp2_with fail; refine hK.out _ _ (pr_of (by (with_reducible (repeat' (first | exact Ext.refl _ | assumption | refine Ext.drew ?_ | refine Ext.drewN ?_ _ | refine Ext.alloc ?_ _ | refine Ext.setCell ?_ ?_ _ | refine Ext.trans ?_ (by assumption)))); all_goals (first | (simp; done) | (simp; omega)))) (fun hHeld => ?_); clear hK K; try simp only [Act.put, List.setIfInBounds_toArray, List.set_cons_zero, List.set_cons_succ])
            (apply SeqH.step; (· (simp only [List.getElem?_toArray, List.getElem?_cons_succ, List.getElem?_cons_zero]; rfl)); intro K hK; go_simp; refine (rkFind_any x _ now _ (by omega) (HN.out.ext (by (with_reducible (repeat' (first | exact Ext.refl _ | assumption | refine Ext.drew ?_ | refine Ext.drewN ?_ _ | refine Ext.alloc ?_ _ | refine Ext.setCell ?_ ?_ _ | refine Ext.trans ?_ (by assumption)))); all_goals (first | (simp; done) | (simp; omega))))).mono ?_; rintro e9 w9 ⟨rfl, rfl⟩; rw [HQ.out]; go_wp2_with fail; refine hK.out _ _ (pr_of (by (with_reducible (repeat' (first | exact Ext.refl _ | assumption | refine Ext.drew ?_ | refine Ext.drewN ?_ _ | refine Ext.alloc ?_ _ | refine Ext.setCell ?_ ?_ _ | refine Ext.trans ?_ (by assumption)))); all_goals (first | (simp; done) | (simp; omega)))) (fun hHeld => ?_); clear hK K; try simp only [Act.put, List.setIfInBounds_toArray, List.set_cons_zero, List.set_cons_succ])
            iterate 9 (apply SeqH.free; (· (simp only [List.getElem?_toArray, List.getElem?_cons_succ, List.getElem?_cons_zero]; rfl)); (· first | exact Or.inr ⟨by rfl, rfl⟩ | (refine Or.inl ⟨by rfl, ?_⟩; intro w hSw; (try dsimp only at hSw); go_simp; try with_reducible rfl)); try simp only [Act.put, List.setIfInBounds_toArray, List.set_cons_zero, List.set_cons_succ])
            (apply SeqH.step; (· (simp only [List.getElem?_toArray, List.getElem?_cons_succ, List.getElem?_cons_zero]; rfl)); intro K hK; go_simp; refine (sCount_any (HD.out.ext (by (with_reducible (repeat' (first | exact Ext.refl _ | assumption | refine Ext.drew ?_ | refine Ext.drewN ?_ _ | refine Ext.alloc ?_ _ | refine Ext.setCell ?_ ?_ _ | refine Ext.trans ?_ (by assumption)))); all_goals (first | (simp; done) | (simp; omega))))).mono ?_; rintro e9 w9 ⟨rfl, rfl⟩; go_wp2_with fail; refine hK.out _ _ (pr_of (by (with_reducible (repeat' (first | exact Ext.refl _ | assumption | refine Ext.drew ?_ | refine Ext.drewN ?_ _ | refine Ext.alloc ?_ _ | refine Ext.setCell ?_ ?_ _ | refine Ext.trans ?_ (by assumption)))); all_goals (first | (simp; done) | (simp; omega)))) (fun hHeld => ?_); clear hK K; try simp only [Act.put, List.setIfInBounds_toArray, List.set_cons_zero, List.set_cons_succ])
            iterate 9 (apply SeqH.free; (· (simp only [List.getElem?_toArray, List.getElem?_cons_succ, List.getElem?_cons_zero]; rfl)); (· first | exact Or.inr ⟨by rfl, rfl⟩ | (refine Or.inl ⟨by rfl, ?_⟩; intro w hSw; (try dsimp only at hSw); go_simp; try with_reducible rfl)); try simp only [Act.put, List.setIfInBounds_toArray, List.set_cons_zero, List.set_cons_succ])
            (apply SeqH.step; (· (simp only [List.getElem?_toArray, List.getElem?_cons_succ, List.getElem?_cons_zero]; rfl)); intro K hK; go_simp; refine (sLeft_any (HD.out.ext (by (with_reducible (repeat' (first | exact Ext.refl _ | assumption | refine Ext.drew ?_ | refine Ext.drewN ?_ _ | refine Ext.alloc ?_ _ | refine Ext.setCell ?_ ?_ _ | refine Ext.trans ?_ (by assumption)))); all_goals (first | (simp; done) | (simp; omega))))).mono ?_; rintro e9 w9 ⟨rfl, rfl⟩; go_wp2_with fail; refine hK.out _ _ (pr_of (by (with_reducible (repeat' (first | exact Ext.refl _ | assumption | refine Ext.drew ?_ | refine Ext.drewN ?_ _ | refine Ext.alloc ?_ _ | refine Ext.setCell ?_ ?_ _ | refine Ext.trans ?_ (by assumption)))); all_goals (first | (simp; done) | (simp; omega)))) (fun hHeld => ?_); clear hK K; try simp only [Act.put, List.setIfInBounds_toArray, List.set_cons_zero, List.set_cons_succ])
            iterate 8 (apply SeqH.free; (· (simp only [List.getElem?_toArray, List.getElem?_cons_succ, List.getElem?_cons_zero]; rfl)); (· first | exact Or.inr ⟨by rfl, rfl⟩ | (refine Or.inl ⟨by rfl, ?_⟩; intro w hSw; (try dsimp only at hSw); go_simp; try with_reducible rfl)); try simp only [Act.put, List.setIfInBounds_toArray, List.set_cons_zero, List.set_cons_succ])
            (apply SeqH.step; (· (simp only [List.getElem?_toArray, List.getElem?_cons_succ, List.getElem?_cons_zero]; rfl)); intro K hK; go_simp; refine (HT.out _ (by (with_reducible (repeat' (first | exact Ext.refl _ | assumption | refine Ext.drew ?_ | refine Ext.drewN ?_ _ | refine Ext.alloc ?_ _ | refine Ext.setCell ?_ ?_ _ | refine Ext.trans ?_ (by assumption)))); all_goals (first | (simp; done) | (simp; omega)))).mono ?_; rintro e9 w9 ⟨v9, rfl, x9, o9⟩; obtain ⟨a9, c9, rfl⟩ := o9.slice; have O9 := hide o9.reads; clear o9; go_wp2_with fail; refine hK.out _ _ (pr_of (by (with_reducible (repeat' (first | exact Ext.refl _ | assumption | refine Ext.drew ?_ | refine Ext.drewN ?_ _ | refine Ext.alloc ?_ _ | refine Ext.setCell ?_ ?_ _ | refine Ext.trans ?_ (by assumption)))); all_goals (first | (simp; done) | (simp; omega)))) (fun hHeld => ?_); clear hK K; try simp only [Act.put, List.setIfInBounds_toArray, List.set_cons_zero, List.set_cons_succ])
            (apply SeqH.step; (· (simp only [List.getElem?_toArray, List.getElem?_cons_succ, List.getElem?_cons_zero]; rfl)); intro K hK; go_simp; refine (tokens21_same _ _ now _ (by omega) (O9.out.ext (by (with_reducible (repeat' (first | exact Ext.refl _ | assumption | refine Ext.drew ?_ | refine Ext.drewN ?_ _ | refine Ext.alloc ?_ _ | refine Ext.setCell ?_ ?_ _ | refine Ext.trans ?_ (by assumption)))); all_goals (first | (simp; done) | (simp; omega)))) (HN.out.ext (by (with_reducible (repeat' (first | exact Ext.refl _ | assumption | refine Ext.drew ?_ | refine Ext.drewN ?_ _ | refine Ext.alloc ?_ _ | refine Ext.setCell ?_ ?_ _ | refine Ext.trans ?_ (by assumption)))); all_goals (first | (simp; done) | (simp; omega))))).mono ?_; rintro e8 w8 ⟨rfl, x8⟩; go_wp2_with fail; refine hK.out _ _ (pr_of (by (with_reducible (repeat' (first | exact Ext.refl _ | assumption | refine Ext.drew ?_ | refine Ext.drewN ?_ _ | refine Ext.alloc ?_ _ | refine Ext.setCell ?_ ?_ _ | refine Ext.trans ?_ (by assumption)))); all_goals (first | (simp; done) | (simp; omega)))) (fun hHeld => ?_); clear hK K; try simp only [Act.put, List.setIfInBounds_toArray, List.set_cons_zero, List.set_cons_succ])
            iterate 2 (apply SeqH.free; (· (simp only [List.getElem?_toArray, List.getElem?_cons_succ, List.getElem?_cons_zero]; rfl)); (· first | exact Or.inr ⟨by rfl, rfl⟩ | (refine Or.inl ⟨by rfl, ?_⟩; intro w hSw; (try dsimp only at hSw); go_simp; try with_reducible rfl)); try simp only [Act.put, List.setIfInBounds_toArray, List.set_cons_zero, List.set_cons_succ])
            refine SeqH.done ?_
            have H8 := hide hHeld.2
            go_wp2
            go_roundw
            case rel => exact ⟨k + 1, by omega, by go_num, HPl.out.ext H8.out⟩
            case measure => simp [intOf]; omega
    · go_wp2_with (go_at_call 39; refine (awake21_any _).mono ?_; rintro e w3 ⟨rfl, hb3⟩; obtain ⟨hc3, hf3⟩ := hb3.cells; have hz3 := hb3.size; (repeat (first | rw [World.size_alloc] at hz3 | rw [World.size_drew] at hz3)))
      go_ret
      exact ⟨rfl, Ext.trans hx (by (with_reducible (repeat' (first | exact Ext.refl _ | assumption | refine Ext.drew ?_ | refine Ext.drewN ?_ _ | refine Ext.alloc ?_ _ | refine Ext.setCell ?_ ?_ _ | refine Ext.trans ?_ (by assumption)))); all_goals (first | (simp; done) | (simp; omega)))⟩

set_option maxRecDepth 100000 in
theorem plays_zero (most : Int) (a : Option Addr) (c : Nat) (w : World) (h1 : 1 ≤ most) (h2 : most ≤ 4) : Calls Try.prog 10 #[.int .i64 most, .slice a 0 c] w fun e w' => e = .returned (.bool true) ∧ Ext w w' := by
  go_enter Try.func10, Try.ntmps10
  go_wp2_with (go_at_call 38; refine (iNew most _ h1 h2).mono ?_; rintro x w1 ⟨d, n, e, rfl, i1⟩; have I1 := hide i1; clear i1)
  go_loopw [8] (fun i wr => i = .int .i64 0 ∧ Ext w wr) (fun _ _ => 0)
  case atStart => exact ⟨rfl, Ext.trans I1.out.bel (by (with_reducible (repeat' (first | exact Ext.refl _ | assumption | refine Ext.drew ?_ | refine Ext.drewN ?_ _ | refine Ext.alloc ?_ _ | refine Ext.setCell ?_ ?_ _ | refine Ext.trans ?_ (by assumption)))); all_goals (first | (simp; done) | (simp; omega)))⟩
  case round =>
    obtain ⟨rfl, hx⟩ := hrel
    go_wp2_with (go_at_call 39; refine (awake21_any _).mono ?_; rintro e w2 ⟨rfl, hb2⟩; obtain ⟨hc2, hf2⟩ := hb2.cells; have hz2 := hb2.size; (repeat (first | rw [World.size_alloc] at hz2 | rw [World.size_drew] at hz2)))
    go_ret
    exact ⟨rfl, Ext.trans hx (by (with_reducible (repeat' (first | exact Ext.refl _ | assumption | refine Ext.drew ?_ | refine Ext.drewN ?_ _ | refine Ext.alloc ?_ _ | refine Ext.setCell ?_ ?_ _ | refine Ext.trans ?_ (by assumption)))); all_goals (first | (simp; done) | (simp; omega)))⟩
end Go.Proofs.Ytifbmapianddcaa
