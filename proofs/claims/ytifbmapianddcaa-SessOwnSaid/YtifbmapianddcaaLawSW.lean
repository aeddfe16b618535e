/- The walk of SessOwn. -/
import Derived.Test.YtifbmapianddcaaTokN
import Derived.Test.YtifbmapianddcaaActsI
import Derived.Deep.CutBlock
set_option linter.all false
set_option linter.unusedVariables false
set_option linter.unusedSimpArgs false
namespace Go.Proofs.Ytifbmapianddcaa
open Go.RowKit

set_option maxRecDepth 100000 in
set_option maxHeartbeats 1000000 in
theorem own_no (most at_ : Int) (lv : Value) (w : World) (h : most < 1 ∨ 4 < most) : Calls Try.prog 12 #[.int .i64 most, lv, .int .i64 at_] w fun e w' => e = .returned (.bool true) ∧ Ext w w' := by
  go_enter Try.func12, Try.ntmps12
  go_wp2_with (first
    | (go_at_call 42; refine (nOpen _).mono ?_; rintro e w' ⟨rfl, rfl⟩)
    | (go_at_call 40; refine (nDraw _ _).mono ?_; rintro e w' ⟨rfl, rfl⟩)
    | (go_at_call 44; refine (nClose _ _).mono ?_; rintro e w' ⟨rfl, rfl⟩)
    | (go_at_call 46; refine (nHas _ _).mono ?_; rintro e w' ⟨rfl, rfl⟩)
    | (go_at_call 48; refine (nCount _).mono ?_; rintro e w' ⟨rfl, rfl⟩)
    | (go_at_call 49; refine (nLeft _).mono ?_; rintro e w' ⟨rfl, rfl⟩)
    | (go_at_call 51; refine (nTokens _).mono ?_; rintro e w1 ⟨rfl, hb1⟩; obtain ⟨hc1, hf1⟩ := hb1.cells; have hz1 := hb1.size; (repeat (first | rw [World.size_alloc] at hz1 | rw [World.size_drew] at hz1)))
    | (go_at_call 52; refine (nClone _).mono ?_; rintro e w' ⟨rfl, rfl⟩)
    | (go_at_call 38; refine (sNew_no most _ h).mono ?_; rintro e w' ⟨rfl, rfl⟩)
    | (go_at_call 39; refine (awake21_any _).mono ?_; rintro e w2 ⟨rfl, hb2⟩; obtain ⟨hc2, hf2⟩ := hb2.cells; have hz2 := hb2.size; (repeat (first | rw [World.size_alloc] at hz2 | rw [World.size_drew] at hz2))))
  go_ret
  exact ⟨rfl, (by (with_reducible (repeat' (first | exact Ext.refl _ | assumption | refine Ext.drew ?_ | refine Ext.drewN ?_ _ | refine Ext.alloc ?_ _ | refine Ext.setCell ?_ ?_ _ | refine Ext.trans ?_ (by assumption)))); all_goals (first | (simp; done) | (simp; omega)))⟩

set_option maxRecDepth 100000 in
set_option maxHeartbeats 1000000 in
theorem own_out (most at_ : Int) (a : Option Addr) (q c : Nat) (w : World) (h1 : 1 ≤ most) (h2 : most ≤ 4) (h : (100 : Int) < (q : Int) ∨ at_ < 0 ∨ (q : Int) < at_) : Calls Try.prog 12 #[.int .i64 most, .slice a q c, .int .i64 at_] w fun e w' => e = .returned (.bool true) ∧ Ext w w' := by
  rcases h with h | h | h
  all_goals
    go_enter Try.func12, Try.ntmps12
    go_wp2_with (first
    | (go_at_call 42; refine (nOpen _).mono ?_; rintro e w' ⟨rfl, rfl⟩)
    | (go_at_call 40; refine (nDraw _ _).mono ?_; rintro e w' ⟨rfl, rfl⟩)
    | (go_at_call 44; refine (nClose _ _).mono ?_; rintro e w' ⟨rfl, rfl⟩)
    | (go_at_call 46; refine (nHas _ _).mono ?_; rintro e w' ⟨rfl, rfl⟩)
    | (go_at_call 48; refine (nCount _).mono ?_; rintro e w' ⟨rfl, rfl⟩)
    | (go_at_call 49; refine (nLeft _).mono ?_; rintro e w' ⟨rfl, rfl⟩)
    | (go_at_call 51; refine (nTokens _).mono ?_; rintro e w0 ⟨rfl, x0⟩; have X0 := hide x0; clear x0)
    | (go_at_call 52; refine (nClone _).mono ?_; rintro e w' ⟨rfl, rfl⟩)
    | (go_at_call 38; refine (iNew most _ h1 h2).mono ?_; rintro x w1 ⟨d, n, e, rfl, i1⟩; have I1 := hide i1; clear i1)
    | (go_at_call 39; refine (awake21_any _).mono ?_; rintro e w2 ⟨rfl, hb2⟩; obtain ⟨hc2, hf2⟩ := hb2.cells; have hz2 := hb2.size; (repeat (first | rw [World.size_alloc] at hz2 | rw [World.size_drew] at hz2))))
    all_goals
      go_ret
      exact ⟨rfl, Ext.trans X0.out (Ext.trans I1.out.bel (by (with_reducible (repeat' (first | exact Ext.refl _ | assumption | refine Ext.drew ?_ | refine Ext.drewN ?_ _ | refine Ext.alloc ?_ _ | refine Ext.setCell ?_ ?_ _ | refine Ext.trans ?_ (by assumption)))); all_goals (first | (simp; done) | (simp; omega))))⟩

set_option maxRecDepth 100000 in
set_option maxHeartbeats 4000000 in
theorem own_main (most : Int) (at_ : Nat) (a : Option Addr) (c : Nat) (l : List (Int × Int)) (w : World) (h1 : 1 ≤ most) (h2 : most ≤ 4) (hl : (l.length : Int) ≤ 100) (h3 : at_ ≤ l.length) (hA : 0 < l.length → ∃ b off, a = some ⟨b, off, none⟩ ∧ b < w.heap.size ∧ ActsAt' w b off l) (hU : ∀ k (h : k < l.length), U64 l[k].2) :
    Calls Try.prog 12 #[.int .i64 most, .slice a l.length c, .int .i64 (at_ : Int)] w fun e w' => e = .returned (.bool true) ∧ Ext w w' := by
  have HA := hide hA
  have HU := hide hU
  have h3' : ¬ ((l.length : Int) < (at_ : Int)) := by omega
  clear hA hU
  go_enter Try.func12, Try.ntmps12
  go_upto_region 9 with (first
    | (go_at_call 42; refine (nOpen _).mono ?_; rintro e w' ⟨rfl, rfl⟩)
    | (go_at_call 40; refine (nDraw _ _).mono ?_; rintro e w' ⟨rfl, rfl⟩)
    | (go_at_call 44; refine (nClose _ _).mono ?_; rintro e w' ⟨rfl, rfl⟩)
    | (go_at_call 46; refine (nHas _ _).mono ?_; rintro e w' ⟨rfl, rfl⟩)
    | (go_at_call 48; refine (nCount _).mono ?_; rintro e w' ⟨rfl, rfl⟩)
    | (go_at_call 49; refine (nLeft _).mono ?_; rintro e w' ⟨rfl, rfl⟩)
    | (go_at_call 51; refine (nTokens _).mono ?_; rintro e w0 ⟨rfl, x0⟩; have X0 := hide x0; clear x0)
    | (go_at_call 52; refine (nClone _).mono ?_; rintro e w' ⟨rfl, rfl⟩)
    | (go_at_call 38; refine (iNew most _ h1 h2).mono ?_; rintro x w1 ⟨d, n, e, rfl, i1⟩; have I1 := hide i1; clear i1))
  have S0 := hide (Pair.start I1.out h1)
  obtain ⟨w2, hw2⟩ : ∃ w2, w1.alloc (.cells #[.int .i64 most, .slice none 0 0, .slice none 0 0, .slice none 0 0] 85) = w2 := ⟨_, rfl⟩
  rw [hw2] at S0 ⊢
  obtain ⟨d2, hd2⟩ : ∃ d2, w1.heap.size = d2 := ⟨_, rfl⟩
  rw [hd2] at S0 ⊢
  clear hw2 hd2 I1
  have z0 := X0.out.size
  go_wp2_with fail
  go_loopw [12] (fun i wr => ∃ k : Nat, k ≤ at_ ∧ i = .int .i64 k ∧ Playing w0.heap.size w0 wr d n e d2 most k) (fun i _ => at_ - (intOf i).toNat)
  case atStart => exact ⟨0, Nat.zero_le _, rfl, S0.out⟩
  case round =>
    obtain ⟨k, hk, rfl, row, ever, now, F, hP, hf, hB, hbz, hF⟩ := hrel
    have HP := hide hP
    have HFr := hide hf
    have HB := hide hB
    have HFF := hide hF
    have hx : Ext w wr := X0.out.trans hB
    clear S0 hP hf hB hF
    by_cases hlt : k < at_
    · obtain ⟨b, off, rfl, hb, hA⟩ := HA.out (by omega)
      obtain ⟨d0, d1⟩ := hA k (by omega)
      clear hA
      have e0 := (hx.cell (p := ⟨b, off + k * 2, none⟩) hb).trans d0
      have e1 := (hx.cell (p := ⟨b, off + k * 2 + 1, none⟩) hb).trans d1
      have UX := hide (HU.out k (by omega))
      have hkl : k < l.length := by omega
      generalize l[k].1 = kd at *
      generalize l[k].2 = x at *
      clear d0 d1
      have C1 := hide (HP.out.desk (fun v D => does_any (s := ⟨row, ever, now⟩) D HFr.out (by omega) kd x UX.out))
      go_wp2_with fail
      refine C1.out.mono ?_
      rintro r9 w3 ⟨rfl, F2, P2, t2, f2⟩
      have T2 := hide (And.intro t2 f2)
      have C2 := hide (P2.ref (fun vr vn ve R => plays_act (s := ⟨row, ever, now⟩) R HFr.out (by omega) h2 kd x UX.out))
      have hnb : ¬ F b := fun h => by have := HFF.out b h; omega
      have g0 := (t2.cell (p := ⟨b, off + k * 2, none⟩) (by show b < _; omega) hnb).trans e0
      have g1 := (t2.cell (p := ⟨b, off + k * 2 + 1, none⟩) (by show b < _; omega) hnb).trans e1
      clear P2 t2 f2 C1
      go_wp2_with fail
      refine C2.out.mono ?_
      rintro r9 w4 ⟨rfl, W4⟩
      have H4 := hide (Playing.step hbz HB.out HFF.out (Went.trans T2.out W4) (HFr.out.step (s := ⟨row, ever, now⟩) kd UX.out))
      clear W4 C2
      go_wp2
      go_roundw
      case rel => exact ⟨k + 1, by omega, by go_num, H4.out⟩
      case measure => simp [intOf]; omega
    · obtain rfl : k = at_ := by omega
      clear hlt hk h3'
      have r1 := HFr.out.fe
      have r2 := HFr.out.fn
      have r3 := HFr.out.fr
      have C1 : Hid (Calls Try.prog 52 #[.pointer (some ⟨d, 0, none⟩)] wr (ClonedDesk wr most row ever now)) := hide (by
        obtain ⟨v, vr, vn, ve, D, R, _, _⟩ := HP.out
        exact sClone_any D r3)
      go_wp2_with fail
      refine C1.out.mono ?_
      rintro r9 w3 ⟨d', v', n', e', rfl, x3, D3, f3⟩
      have C2 : Hid (Calls Try.prog 55 #[.pointer (some ⟨d2, 0, none⟩)] w3 (CopiedDesk w3 most row ever now)) := hide (by
        obtain ⟨v, vr, vn, ve, D, R, _, _⟩ := HP.out
        exact rkCopy_any (R.ext x3) (by omega) (by omega) (by omega))
      have X3 := hide (And.intro x3 (And.intro D3 f3))
      clear x3 D3 f3 C1
      go_wp2_with fail
      refine C2.out.mono ?_
      rintro r9 w4 ⟨d2', vr, vn, ve, rfl, x4, R4, f4⟩
      have H4 := hide (Two.make HP.out HFr.out hbz HB.out HFF.out X3.out.1 X3.out.2.1 X3.out.2.2 x4 R4 f4)
      have HFr0 := hide HFr.out
      clear x4 R4 f4 C2 X3 HP HFr HB HFF hx hbz
      go_wp2_with fail
      go_loopw [15] (fun i wy => ∃ j : Nat, k ≤ j ∧ j ≤ l.length ∧ i = .int .i64 j ∧ Two w0.heap.size w0 wy d n e d2 d' n' e' d2' most j row ever now) (fun i _ => l.length - (intOf i).toNat)
      case atStart => exact ⟨k, Nat.le_refl _, h3, rfl, H4.out⟩
      case round =>
        obtain ⟨j, hkj, hj, rfl, F, hP, row', ever', now', F', hP', hf, hap, hB, hbz, hF, hF'⟩ := hrel
        have HP := hide hP
        have HP' := hide hP'
        have HFr := hide hf
        have HB := hide hB
        have HAp := hide hap
        have HFF := hide hF
        have HFF' := hide hF'
        have hx : Ext w wr := X0.out.trans hB
        clear H4 hP hP' hf hap hB hF hF'
        by_cases hlt : j < l.length
        · obtain ⟨b, off, rfl, hb, hA⟩ := HA.out (by omega)
          obtain ⟨d0, d1⟩ := hA j (by omega)
          clear hA
          have e0 := (hx.cell (p := ⟨b, off + j * 2, none⟩) hb).trans d0
          have e1 := (hx.cell (p := ⟨b, off + j * 2 + 1, none⟩) hb).trans d1
          have UX := hide (HU.out j (by omega))
          generalize l[j].1 = kd at *
          generalize l[j].2 = x at *
          clear d0 d1
          have C1 := hide (HP'.out.desk (fun v D => does_any (s := ⟨row', ever', now'⟩) D HFr.out (by omega) kd x UX.out))
          go_wp2_with fail
          refine C1.out.mono ?_
          rintro r9 w3 ⟨rfl, F2, P2, t2, f2⟩
          have T2 := hide (And.intro t2 f2)
          have C2 := hide (P2.ref (fun vr vn ve R => plays_act (s := ⟨row', ever', now'⟩) R HFr.out (by omega) h2 kd x UX.out))
          have hnb : ¬ F' b := fun h => by have := HFF'.out b h; omega
          have g0 := (t2.cell (p := ⟨b, off + j * 2, none⟩) (by show b < _; omega) hnb).trans e0
          have g1 := (t2.cell (p := ⟨b, off + j * 2 + 1, none⟩) (by show b < _; omega) hnb).trans e1
          clear P2 t2 f2 C1
          go_wp2_with fail
          refine C2.out.mono ?_
          rintro r9 w4 ⟨rfl, W4⟩
          have H4 := hide (Two.step HP.out hbz HB.out HAp.out HFF.out HFF'.out (Went.trans T2.out W4) (HFr.out.step (s := ⟨row', ever', now'⟩) kd UX.out))
          clear W4 C2
          go_wp2
          go_roundw
          case rel => exact ⟨j + 1, by omega, by omega, by go_num, H4.out⟩
          case measure => simp [intOf]; omega
        · have q1 := HFr.out.fe
          have q2 := HFr.out.fn
          have q3 := HFr.out.fr
          obtain ⟨v, vr, vn, ve, D, R, _, _⟩ := HP.out
          obtain ⟨v', vr', vn', ve', D', R', _, _⟩ := HP'.out
          obtain ⟨ar, cr, rfl⟩ := R.row.slice
          obtain ⟨an, cn, rfl⟩ := R.now.slice
          obtain ⟨ar', cr', rfl⟩ := R'.row.slice
          obtain ⟨an', cn', rfl⟩ := R'.now.slice
          have b1 : wr.cell? ⟨d2, 1, none⟩ = some (.slice ar row.length cr) := R.blk.cell 1
          have b2 : wr.cell? ⟨d2, 2, none⟩ = some (.slice an now.length cn) := R.blk.cell 2
          have zd : d2 < wr.heap.size := R.blk.lt
          have b1' : wr.cell? ⟨d2', 1, none⟩ = some (.slice ar' row'.length cr') := R'.blk.cell 1
          have b2' : wr.cell? ⟨d2', 2, none⟩ = some (.slice an' now'.length cn') := R'.blk.cell 2
          have zd' : d2' < wr.heap.size := R'.blk.lt
          have HD := hide D
          have HD' := hide D'
          have HN := hide R.now.reads
          have HN' := hide R'.now.reads
          have HT := hide (fun W (xw : Ext wr W) => sTokens_any (D.ext xw) HFr0.out.un (by omega))
          have HT' := hide (fun W (xw : Ext wr W) => sTokens_any (D'.ext xw) HFr.out.un (by omega))
          clear D D' R R'
          have X := hide hx
          clear hx
          go_wp2_with fail
          refine seqH_start (S := (fun W => (∀ b o, b < wr.heap.size → W.cell? ⟨b, o, none⟩ = wr.cell? ⟨b, o, none⟩) ∧ Ext wr W)) [(0, true), (2, true), (3, true), (4, true), (5, true), (1, false), (6, false), (7, true), (8, true), (9, true), (11, true), (12, true), (13, true), (14, true), (15, true), (10, false), (16, true), (17, true), (18, true), (19, true), (21, true), (22, true), (23, true), (24, true), (20, false), (25, false), (26, true), (27, true), (28, true), (29, true), (31, true), (32, true), (33, true), (34, true), (35, true), (30, false), (36, true), (37, true)] (by kernel_rfl) (by kernel_rfl) (by kernel_rfl) (by decide) (fun _ _ d _ _ h => by cases d <;> exact h) (by first | with_reducible exact pr_start _ | exact pr_of (by (with_reducible (repeat' (first | exact Ext.refl _ | assumption | refine Ext.drew ?_ | refine Ext.drewN ?_ _ | refine Ext.alloc ?_ _ | refine Ext.setCell ?_ ?_ _ | refine Ext.trans ?_ (by assumption)))); all_goals (first | (simp; done) | (simp; omega)))) (fun hHeld => ?_)
          iterate 5 (apply SeqH.free; (· (simp only [List.getElem?_toArray, List.getElem?_cons_succ, List.getElem?_cons_zero]; rfl)); (· first | exact Or.inr ⟨by rfl, rfl⟩ | (refine Or.inl ⟨by rfl, ?_⟩; intro w hSw; (try dsimp only at hSw); go_simp; try with_reducible rfl)); try simp only [Act.put, List.setIfInBounds_toArray, List.set_cons_zero, List.set_cons_succ])
          (apply SeqH.step; (· (simp only [List.getElem?_toArray, List.getElem?_cons_succ, List.getElem?_cons_zero]; rfl)); intro K hK; go_simp; refine (HT'.out _ (by (with_reducible (repeat' (first | exact Ext.refl _ | assumption | refine Ext.drew ?_ | refine Ext.drewN ?_ _ | refine Ext.alloc ?_ _ | refine Ext.setCell ?_ ?_ _ | refine Ext.trans ?_ (by assumption)))); all_goals (first | (simp; done) | (simp; omega)))).mono ?_; rintro e9 w9 ⟨v9, rfl, x9, o9⟩; obtain ⟨a9, c9, rfl⟩ := o9.slice; have O9 := hide o9.reads; clear o9; go_wp2_with fail; refine hK.out _ _ (pr_of (by (with_reducible (repeat' (first | exact Ext.refl _ | assumption | refine Ext.drew ?_ | refine Ext.drewN ?_ _ | refine Ext.alloc ?_ _ | refine Ext.setCell ?_ ?_ _ | refine Ext.trans ?_ (by assumption)))); all_goals (first | (simp; done) | (simp; omega)))) (fun hHeld => ?_); clear hK K; try simp only [Act.put, List.setIfInBounds_toArray, List.set_cons_zero, List.set_cons_succ])
          (apply SeqH.step; (· (simp only [List.getElem?_toArray, List.getElem?_cons_succ, List.getElem?_cons_zero]; rfl)); intro K hK; go_simp; refine (tokens21_same _ _ now' _ (by omega) (O9.out.ext (by (with_reducible (repeat' (first | exact Ext.refl _ | assumption | refine Ext.drew ?_ | refine Ext.drewN ?_ _ | refine Ext.alloc ?_ _ | refine Ext.setCell ?_ ?_ _ | refine Ext.trans ?_ (by assumption)))); all_goals (first | (simp; done) | (simp; omega)))) (HN'.out.ext (by (with_reducible (repeat' (first | exact Ext.refl _ | assumption | refine Ext.drew ?_ | refine Ext.drewN ?_ _ | refine Ext.alloc ?_ _ | refine Ext.setCell ?_ ?_ _ | refine Ext.trans ?_ (by assumption)))); all_goals (first | (simp; done) | (simp; omega))))).mono ?_; rintro e8 w8 ⟨rfl, x8⟩; go_wp2_with fail; refine hK.out _ _ (pr_of (by (with_reducible (repeat' (first | exact Ext.refl _ | assumption | refine Ext.drew ?_ | refine Ext.drewN ?_ _ | refine Ext.alloc ?_ _ | refine Ext.setCell ?_ ?_ _ | refine Ext.trans ?_ (by assumption)))); all_goals (first | (simp; done) | (simp; omega)))) (fun hHeld => ?_); clear hK K; try simp only [Act.put, List.setIfInBounds_toArray, List.set_cons_zero, List.set_cons_succ])
          iterate 8 (apply SeqH.free; (· (simp only [List.getElem?_toArray, List.getElem?_cons_succ, List.getElem?_cons_zero]; rfl)); (· first | exact Or.inr ⟨by rfl, rfl⟩ | (refine Or.inl ⟨by rfl, ?_⟩; intro w hSw; (try dsimp only at hSw); go_simp; try with_reducible rfl)); try simp only [Act.put, List.setIfInBounds_toArray, List.set_cons_zero, List.set_cons_succ])
          (apply SeqH.step; (· (simp only [List.getElem?_toArray, List.getElem?_cons_succ, List.getElem?_cons_zero]; rfl)); intro K hK; go_simp; refine (sLeft_any (HD'.out.ext (by (with_reducible (repeat' (first | exact Ext.refl _ | assumption | refine Ext.drew ?_ | refine Ext.drewN ?_ _ | refine Ext.alloc ?_ _ | refine Ext.setCell ?_ ?_ _ | refine Ext.trans ?_ (by assumption)))); all_goals (first | (simp; done) | (simp; omega))))).mono ?_; rintro e7 w7 ⟨rfl, rfl⟩; go_wp2_with fail; refine hK.out _ _ (pr_of (by (with_reducible (repeat' (first | exact Ext.refl _ | assumption | refine Ext.drew ?_ | refine Ext.drewN ?_ _ | refine Ext.alloc ?_ _ | refine Ext.setCell ?_ ?_ _ | refine Ext.trans ?_ (by assumption)))); all_goals (first | (simp; done) | (simp; omega)))) (fun hHeld => ?_); clear hK K; try simp only [Act.put, List.setIfInBounds_toArray, List.set_cons_zero, List.set_cons_succ])
          iterate 8 (apply SeqH.free; (· (simp only [List.getElem?_toArray, List.getElem?_cons_succ, List.getElem?_cons_zero]; rfl)); (· first | exact Or.inr ⟨by rfl, rfl⟩ | (refine Or.inl ⟨by rfl, ?_⟩; intro w hSw; (try dsimp only at hSw); go_simp; try with_reducible rfl)); try simp only [Act.put, List.setIfInBounds_toArray, List.set_cons_zero, List.set_cons_succ])
          (apply SeqH.step; (· (simp only [List.getElem?_toArray, List.getElem?_cons_succ, List.getElem?_cons_zero]; rfl)); intro K hK; go_simp; refine (HT.out _ (by (with_reducible (repeat' (first | exact Ext.refl _ | assumption | refine Ext.drew ?_ | refine Ext.drewN ?_ _ | refine Ext.alloc ?_ _ | refine Ext.setCell ?_ ?_ _ | refine Ext.trans ?_ (by assumption)))); all_goals (first | (simp; done) | (simp; omega)))).mono ?_; rintro e6 w6 ⟨v6, rfl, x6, o6⟩; obtain ⟨a6, c6, rfl⟩ := o6.slice; have O6 := hide o6.reads; clear o6; go_wp2_with fail; refine hK.out _ _ (pr_of (by (with_reducible (repeat' (first | exact Ext.refl _ | assumption | refine Ext.drew ?_ | refine Ext.drewN ?_ _ | refine Ext.alloc ?_ _ | refine Ext.setCell ?_ ?_ _ | refine Ext.trans ?_ (by assumption)))); all_goals (first | (simp; done) | (simp; omega)))) (fun hHeld => ?_); clear hK K; try simp only [Act.put, List.setIfInBounds_toArray, List.set_cons_zero, List.set_cons_succ])
          (apply SeqH.step; (· (simp only [List.getElem?_toArray, List.getElem?_cons_succ, List.getElem?_cons_zero]; rfl)); intro K hK; go_simp; refine (tokens21_same _ _ now _ (by omega) (O6.out.ext (by (with_reducible (repeat' (first | exact Ext.refl _ | assumption | refine Ext.drew ?_ | refine Ext.drewN ?_ _ | refine Ext.alloc ?_ _ | refine Ext.setCell ?_ ?_ _ | refine Ext.trans ?_ (by assumption)))); all_goals (first | (simp; done) | (simp; omega)))) (HN.out.ext (by (with_reducible (repeat' (first | exact Ext.refl _ | assumption | refine Ext.drew ?_ | refine Ext.drewN ?_ _ | refine Ext.alloc ?_ _ | refine Ext.setCell ?_ ?_ _ | refine Ext.trans ?_ (by assumption)))); all_goals (first | (simp; done) | (simp; omega))))).mono ?_; rintro e5 w5 ⟨rfl, x5⟩; go_wp2_with fail; refine hK.out _ _ (pr_of (by (with_reducible (repeat' (first | exact Ext.refl _ | assumption | refine Ext.drew ?_ | refine Ext.drewN ?_ _ | refine Ext.alloc ?_ _ | refine Ext.setCell ?_ ?_ _ | refine Ext.trans ?_ (by assumption)))); all_goals (first | (simp; done) | (simp; omega)))) (fun hHeld => ?_); clear hK K; try simp only [Act.put, List.setIfInBounds_toArray, List.set_cons_zero, List.set_cons_succ])
          iterate 9 (apply SeqH.free; (· (simp only [List.getElem?_toArray, List.getElem?_cons_succ, List.getElem?_cons_zero]; rfl)); (· first | exact Or.inr ⟨by rfl, rfl⟩ | (refine Or.inl ⟨by rfl, ?_⟩; intro w hSw; (try dsimp only at hSw); go_simp; try with_reducible rfl)); try simp only [Act.put, List.setIfInBounds_toArray, List.set_cons_zero, List.set_cons_succ])
          (apply SeqH.step; (· (simp only [List.getElem?_toArray, List.getElem?_cons_succ, List.getElem?_cons_zero]; rfl)); intro K hK; go_simp; refine (sLeft_any (HD.out.ext (by (with_reducible (repeat' (first | exact Ext.refl _ | assumption | refine Ext.drew ?_ | refine Ext.drewN ?_ _ | refine Ext.alloc ?_ _ | refine Ext.setCell ?_ ?_ _ | refine Ext.trans ?_ (by assumption)))); all_goals (first | (simp; done) | (simp; omega))))).mono ?_; rintro e4 w4 ⟨rfl, rfl⟩; go_wp2_with fail; refine hK.out _ _ (pr_of (by (with_reducible (repeat' (first | exact Ext.refl _ | assumption | refine Ext.drew ?_ | refine Ext.drewN ?_ _ | refine Ext.alloc ?_ _ | refine Ext.setCell ?_ ?_ _ | refine Ext.trans ?_ (by assumption)))); all_goals (first | (simp; done) | (simp; omega)))) (fun hHeld => ?_); clear hK K; try simp only [Act.put, List.setIfInBounds_toArray, List.set_cons_zero, List.set_cons_succ])
          iterate 2 (apply SeqH.free; (· (simp only [List.getElem?_toArray, List.getElem?_cons_succ, List.getElem?_cons_zero]; rfl)); (· first | exact Or.inr ⟨by rfl, rfl⟩ | (refine Or.inl ⟨by rfl, ?_⟩; intro w hSw; (try dsimp only at hSw); go_simp; try with_reducible rfl)); try simp only [Act.put, List.setIfInBounds_toArray, List.set_cons_zero, List.set_cons_succ])
          refine SeqH.done ?_
          have X5 := hide hHeld.2
          have HT5 := hide (HT.out w5 hHeld.2)
          clear hHeld x9 x8 x6 x5 O9 O6 HT HT' HD' HN' b1' b2' zd' b1 b2 zd HN HD
          have z5 := X5.out.size
          go_wp2_with fail
          refine HT5.out.mono ?_
          rintro e9 wa ⟨v9, rfl, xa, oa⟩
          obtain ⟨a9, c9, rfl⟩ := oa.slice
          have OA := hide oa
          have XA := hide xa
          clear oa xa HT5
          have HC : Hid (0 < now.length → ∃ g, a9 = some ⟨g, 0, none⟩ ∧ w5.heap.size ≤ g ∧ Cells64 wa g now.length) := hide (fun q0 => by
            obtain ⟨g, c', hv, hg, hgl, hC⟩ := cells64_of OA.out q0
            simp only [Value.slice.injEq] at hv
            exact ⟨g, hv.1, hg, hC⟩)
          clear OA
          go_wp2_with fail
          go_loopw [17] (fun i wz => ∃ p : Nat, p ≤ now.length ∧ i = .int .i64 p ∧ Ext w5 wz ∧ (0 < now.length → ∃ g, a9 = some ⟨g, 0, none⟩ ∧ w5.heap.size ≤ g ∧ Cells64 wz g now.length)) (fun i _ => now.length - (intOf i).toNat)
          case atStart => exact ⟨0, Nat.zero_le _, rfl, XA.out, HC.out⟩
          case round =>
            obtain ⟨p, hp, rfl, hx, hC⟩ := hrel
            have HX := hide hx
            have HC' := hide hC
            clear hx hC HC
            by_cases hlt : p < now.length
            · obtain ⟨g, rfl, hg, hC⟩ := HC'.out (by omega)
              obtain ⟨⟨y, hy⟩, hf⟩ := hC p hlt
              have HC2 := hide hC
              clear hC HC'
              go_wp2
              go_roundw
              case rel => exact ⟨p + 1, by omega, by go_num, HX.out.setCell hg _, fun _ => ⟨g, rfl, hg, HC2.out.set hlt _⟩⟩
              case measure => simp [intOf]; omega
            · have X6 := hide (X5.out.trans HX.out)
              have HPr := hide (HP.out.ext X6.out)
              obtain ⟨v, vr, vn, ve, D, R, _, _⟩ := HPr.out
              obtain ⟨ar, cr, rfl⟩ := R.row.slice
              obtain ⟨an, cn, rfl⟩ := R.now.slice
              have b2 : wr.cell? ⟨d2, 2, none⟩ = some (.slice an now.length cn) := R.blk.cell 2
              have zd : d2 < wr.heap.size := R.blk.lt
              have HN := hide R.now.reads
              have HT := hide (fun W (xw : Ext wr W) => sTokens_any (D.ext xw) HFr0.out.un (by omega))
              have HBr := hide (HB.out.trans (Below.mono X6.out hbz))
              have hbr : w0.heap.size ≤ wr.heap.size := Nat.le_trans hbz X6.out.size
              clear D R X6 HX HC' HP HP' HB X5 XA
              go_wp2_with fail
              refine seqH_start (S := (fun W => (∀ b o, b < wr.heap.size → W.cell? ⟨b, o, none⟩ = wr.cell? ⟨b, o, none⟩) ∧ Ext wr W)) [(0, true), (2, true), (3, true), (4, true), (5, true), (1, false), (6, false), (7, true)] (by kernel_rfl) (by kernel_rfl) (by kernel_rfl) (by decide) (fun _ _ d _ _ h => by cases d <;> exact h) (by first | with_reducible exact pr_start _ | exact pr_of (by (with_reducible (repeat' (first | exact Ext.refl _ | assumption | refine Ext.drew ?_ | refine Ext.drewN ?_ _ | refine Ext.alloc ?_ _ | refine Ext.setCell ?_ ?_ _ | refine Ext.trans ?_ (by assumption)))); all_goals (first | (simp; done) | (simp; omega)))) (fun hHeld => ?_)
              iterate 5 (apply SeqH.free; (· (simp only [List.getElem?_toArray, List.getElem?_cons_succ, List.getElem?_cons_zero]; rfl)); (· first | exact Or.inr ⟨by rfl, rfl⟩ | (refine Or.inl ⟨by rfl, ?_⟩; intro w hSw; (try dsimp only at hSw); go_simp; try with_reducible rfl)); try simp only [Act.put, List.setIfInBounds_toArray, List.set_cons_zero, List.set_cons_succ])
              (apply SeqH.step; (· (simp only [List.getElem?_toArray, List.getElem?_cons_succ, List.getElem?_cons_zero]; rfl)); intro K hK; go_simp; refine (HT.out _ (by (with_reducible (repeat' (first | exact Ext.refl _ | assumption | refine Ext.drew ?_ | refine Ext.drewN ?_ _ | refine Ext.alloc ?_ _ | refine Ext.setCell ?_ ?_ _ | refine Ext.trans ?_ (by assumption)))); all_goals (first | (simp; done) | (simp; omega)))).mono ?_; rintro e9 w9 ⟨v9, rfl, x9, o9⟩; obtain ⟨a8, c8, rfl⟩ := o9.slice; have O9 := hide o9.reads; clear o9; go_wp2_with fail; refine hK.out _ _ (pr_of (by (with_reducible (repeat' (first | exact Ext.refl _ | assumption | refine Ext.drew ?_ | refine Ext.drewN ?_ _ | refine Ext.alloc ?_ _ | refine Ext.setCell ?_ ?_ _ | refine Ext.trans ?_ (by assumption)))); all_goals (first | (simp; done) | (simp; omega)))) (fun hHeld => ?_); clear hK K; try simp only [Act.put, List.setIfInBounds_toArray, List.set_cons_zero, List.set_cons_succ])
              (apply SeqH.step; (· (simp only [List.getElem?_toArray, List.getElem?_cons_succ, List.getElem?_cons_zero]; rfl)); intro K hK; go_simp; refine (tokens21_same _ _ now _ (by omega) (O9.out.ext (by (with_reducible (repeat' (first | exact Ext.refl _ | assumption | refine Ext.drew ?_ | refine Ext.drewN ?_ _ | refine Ext.alloc ?_ _ | refine Ext.setCell ?_ ?_ _ | refine Ext.trans ?_ (by assumption)))); all_goals (first | (simp; done) | (simp; omega)))) (HN.out.ext (by (with_reducible (repeat' (first | exact Ext.refl _ | assumption | refine Ext.drew ?_ | refine Ext.drewN ?_ _ | refine Ext.alloc ?_ _ | refine Ext.setCell ?_ ?_ _ | refine Ext.trans ?_ (by assumption)))); all_goals (first | (simp; done) | (simp; omega))))).mono ?_; rintro e8 w8 ⟨rfl, x8⟩; go_wp2_with fail; refine hK.out _ _ (pr_of (by (with_reducible (repeat' (first | exact Ext.refl _ | assumption | refine Ext.drew ?_ | refine Ext.drewN ?_ _ | refine Ext.alloc ?_ _ | refine Ext.setCell ?_ ?_ _ | refine Ext.trans ?_ (by assumption)))); all_goals (first | (simp; done) | (simp; omega)))) (fun hHeld => ?_); clear hK K; try simp only [Act.put, List.setIfInBounds_toArray, List.set_cons_zero, List.set_cons_succ])
              iterate 1 (apply SeqH.free; (· (simp only [List.getElem?_toArray, List.getElem?_cons_succ, List.getElem?_cons_zero]; rfl)); (· first | exact Or.inr ⟨by rfl, rfl⟩ | (refine Or.inl ⟨by rfl, ?_⟩; intro w hSw; (try dsimp only at hSw); go_simp; try with_reducible rfl)); try simp only [Act.put, List.setIfInBounds_toArray, List.set_cons_zero, List.set_cons_succ])
              refine SeqH.done ?_
              have X8 := hide hHeld.2
              have HP8 := hide (HPr.out.ext X8.out)
              have hb8 : w0.heap.size ≤ w8.heap.size := Nat.le_trans hbr X8.out.size
              have HB8 := hide (HBr.out.trans (Below.mono X8.out hbr))
              have C1 := hide (HP8.out.desk (fun v D => sOpen_st (s := ⟨row, ever, now⟩) D HFr0.out (by omega)))
              clear hHeld x8 x9 O9 HT HN b2 zd
              go_wp2_with fail
              refine C1.out.mono ?_
              rintro r9 wx ⟨rfl, F2, P2, t2, f2⟩
              have T2 := hide (And.intro t2 f2)
              have C2 := hide (P2.ref (fun vr vn ve R => rkOpen_st (s := ⟨row, ever, now⟩) R HFr0.out (by omega) h2))
              clear P2 t2 f2 C1
              go_wp2_with fail
              refine C2.out.mono ?_
              rintro r9 wy ⟨rfl, W4⟩
              have XE : Hid (Ext w wy) := hide (by
                obtain ⟨G, Q, t, f⟩ := Went.trans T2.out W4
                exact X0.out.trans (HB8.out.trans (t.to_below hb8 HFF.out)))
              clear W4 C2 T2
              go_wp2_with (go_at_call 39; refine (awake21_any _).mono ?_; rintro e w99 ⟨rfl, hb99⟩; obtain ⟨hc99, hf99⟩ := hb99.cells; have hz99 := hb99.size; (repeat (first | rw [World.size_alloc] at hz99 | rw [World.size_drew] at hz99)))
              go_ret
              exact ⟨rfl, XE.out.trans (by (with_reducible (repeat' (first | exact Ext.refl _ | assumption | refine Ext.drew ?_ | refine Ext.drewN ?_ _ | refine Ext.alloc ?_ _ | refine Ext.setCell ?_ ?_ _ | refine Ext.trans ?_ (by assumption)))); all_goals (first | (simp; done) | (simp; omega)))⟩

set_option maxRecDepth 100000 in
set_option maxHeartbeats 1000000 in
theorem own_any (most at_ : Int) (v : Value) (w : World) (hv : ActsV' w v) : Calls Try.prog 12 #[.int .i64 most, v, .int .i64 at_] w fun e w' => e = .returned (.bool true) ∧ Ext w w' := by
  by_cases hm : most < 1 ∨ 4 < most
  · exact own_no most at_ v w hm
  · obtain ⟨a, len, cap, rfl, hl, h⟩ := hv
    by_cases h2 : (100 : Int) < (len : Int) ∨ at_ < 0 ∨ (len : Int) < at_
    · exact own_out most at_ a len cap w (by omega) (by omega) h2
    · obtain ⟨k, rfl⟩ : ∃ k : Nat, at_ = (k : Int) := ⟨at_.toNat, by omega⟩
      by_cases h0 : 0 < len
      · obtain ⟨b, off, l, rfl, hb, rfl, hA, hU⟩ := h h0
        exact own_main most k _ cap l w (by omega) (by omega) (by omega) (by omega) (fun _ => ⟨b, off, rfl, hb, hA⟩) hU
      · obtain rfl : len = 0 := by omega
        exact own_main most k a cap [] w (by omega) (by omega) (by simp) (by simp; omega) (fun h => by simp at h) (fun k h => by simp at h)
end Go.Proofs.Ytifbmapianddcaa
