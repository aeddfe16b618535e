/- The walk of RedoSame. -/
import Derived.Test.YtkioohhjjdlhiaaGreatTurnP
import Derived.Test.YtkioohhjjdlhiaaGreatAwake14
import Derived.Test.YtkioohhjjdlhiaaGreatRedS
set_option linter.all false
set_option linter.unusedVariables false
set_option linter.unusedSimpArgs false
namespace Go.Proofs.YtkioohhjjdlhiaaGreat
open Go.RowKit

set_option maxRecDepth 100000 in
theorem rs_far {w : World} (W H : Int) (a : Option Addr) (n c : Nat) (s : Int) {ta : Option Addr} {L : List (List (Int × Int) × Bool)} (tc : Nat) (ht : TurnsAt w ta L) (hl : L.length ≤ 9223372036854775807) (h : smallT n L = false) :
    Calls Tryz.prog 4 #[.agg #[.int .i64 W, .int .i64 H, .slice a n c], .int .i64 s, .slice ta L.length tc] w fun e w' => e = .returned (.bool true) ∧ Ext w w' := by
  have HS := hide (fun (w' : World) (x : Ext w w') => small14_any (w := w') W H a n c tc (ht.ext x) hl)
  rw [h] at HS
  obtain ⟨m, hm⟩ : ∃ z, L.length = z := ⟨_, rfl⟩
  rw [hm] at HS ⊢
  clear ht hl h hm
  go_enter Tryz.func4, Tryz.ntmps4
  go_wp2_with fail
  refine (HS.out _ (by (with_reducible (repeat' (first | exact Ext.refl _ | assumption | refine Ext.drew ?_ | refine Ext.drewN ?_ _ | refine Ext.alloc ?_ _ | refine Ext.setCell ?_ ?_ _ | refine Ext.trans ?_ (by assumption)))); all_goals (first | (simp; done) | (simp; omega)))).mono ?_
  rintro e w1 ⟨rfl, hb1⟩
  go_wp2_with fail
  refine (awake14_any _).mono ?_
  rintro e w2 ⟨rfl, hb2⟩
  go_wp2_with fail
  go_ret
  exact ⟨rfl, (by (with_reducible (repeat' (first | exact Ext.refl _ | assumption | refine Ext.drew ?_ | refine Ext.drewN ?_ _ | refine Ext.alloc ?_ _ | refine Ext.setCell ?_ ?_ _ | refine Ext.trans ?_ (by assumption)))); all_goals (first | (simp; done) | (simp; omega)))⟩

set_option maxRecDepth 100000 in
theorem rs_bad {w : World} (W H : Int) (a : Option Addr) (n c : Nat) (s : Int) {ta : Option Addr} {L : List (List (Int × Int) × Bool)} (tc : Nat) (ht : TurnsAt w ta L) (hl : L.length ≤ 9223372036854775807) (h : smallT n L = true) (he : newE W H n s ≠ 0) :
    Calls Tryz.prog 4 #[.agg #[.int .i64 W, .int .i64 H, .slice a n c], .int .i64 s, .slice ta L.length tc] w fun e w' => e = .returned (.bool true) ∧ Ext w w' := by
  have HS := hide (fun (w' : World) (x : Ext w w') => small14_any (w := w') W H a n c tc (ht.ext x) hl)
  rw [h] at HS
  have HB := hide (fun (w' : World) => rdNew_bad (w := w') W H a n c s he)
  generalize newE W H n s = er at *
  have hne : (er != 0) = true := by simpa using he
  obtain ⟨m, hm⟩ : ∃ z, L.length = z := ⟨_, rfl⟩
  rw [hm] at HS ⊢
  clear ht hl h hm he
  go_enter Tryz.func4, Tryz.ntmps4
  go_wp2_with fail
  refine (HS.out _ (by (with_reducible (repeat' (first | exact Ext.refl _ | assumption | refine Ext.drew ?_ | refine Ext.drewN ?_ _ | refine Ext.alloc ?_ _ | refine Ext.setCell ?_ ?_ _ | refine Ext.trans ?_ (by assumption)))); all_goals (first | (simp; done) | (simp; omega)))).mono ?_
  rintro e w1 ⟨rfl, hb1⟩
  obtain ⟨hc1, hf1⟩ := hb1.cells; have hz1 := hb1.size; (repeat (first | rw [World.size_alloc] at hz1 | rw [World.size_drew] at hz1)); have z1_0 : w.heap.size < w1.heap.size := (by omega)
  go_wp2_with fail
  refine (HB.out _).mono ?_
  rintro e w3 ⟨rfl, hb3⟩
  go_wp2_with fail
  refine (awake14_any _).mono ?_
  rintro e w2 ⟨rfl, hb2⟩
  go_wp2_with fail
  go_ret
  exact ⟨rfl, (by (with_reducible (repeat' (first | exact Ext.refl _ | assumption | refine Ext.drew ?_ | refine Ext.drewN ?_ _ | refine Ext.alloc ?_ _ | refine Ext.setCell ?_ ?_ _ | refine Ext.trans ?_ (by assumption)))); all_goals (first | (simp; done) | (simp; omega)))⟩

theorem gates_small {W H s : Int} {l : List Int} (g : Good W H s l) (hl : l.length ≤ 260) : (gatesA W H s l).length ≤ 50000 := by
  have h1 : cnt W H s ≤ W * H := by
    obtain ⟨r1, r2, r3, r4, r5, r6⟩ := rightB_true.1 g.right
    have b1 := acr_bd W s r5 r6 r1 r2
    have b2 := acr_bd H s r5 r6 r3 r4
    have hle : ∀ L : Int, 1 ≤ L → acr L s ≤ L := fun L hL => by
      unfold acr
      apply Int.ediv_le_of_le_mul (by omega)
      have := Int.mul_nonneg (show (0 : Int) ≤ L - 1 by omega) (show (0 : Int) ≤ s - 1 by omega)
      rw [Int.sub_mul, Int.mul_sub] at this
      omega
    unfold cnt
    exact Int.mul_le_mul (hle W r1) (hle H r3) (by omega) (by omega)
  have h2 := (checkE_ok.1 g.ok).2
  have h3 := g.cnt
  have h4 := ofG_len (l := l) g.right (n := (cnt W H s).toNat) (by omega)
  unfold gatesA
  omega

set_option maxRecDepth 100000 in
set_option maxHeartbeats 4000000 in
theorem rs_main {w : World} {W H : Int} {a : Option Addr} {l : List Int} (c : Nat) {s : Int} {ta : Option Addr} {L : List (List (Int × Int) × Bool)} (tc : Nat) (g : Good W H s l) (hr : Row16 w a l) (ht : TurnsAt w ta L) (hi : ∀ t ∈ L, ∀ e ∈ t.1, InI e.1 ∧ InI e.2) (h : smallT l.length L = true) :
    Calls Tryz.prog 4 #[.agg #[.int .i64 W, .int .i64 H, .slice a l.length c], .int .i64 s, .slice ta L.length tc] w fun e w' => e = .returned (.bool true) ∧ Ext w w' := by
  obtain ⟨hl260, hl6, hl20⟩ := smallT_true h
  have HS := hide (fun (w' : World) (x : Ext w w') => small14_any (w := w') W H a l.length c tc (ht.ext x) (by omega))
  rw [h] at HS
  have HG := hide g
  have HT := hide ht
  have HI := hide hi
  have H20 := hide hl20
  have HNW := hide (fun (w' : World) (x : Ext w w') => rdNew_yes (w := w') c g (hr.ext x) (gates_small g hl260))
  have HRW := hide hr
  have hw1 : ¬ W < 1 := by have := (mayB_true.1 (checkE_ok.1 g.ok).1); omega
  have hw1' : decide (W < 1) = false := by simp; omega
  have hpos : 1 ≤ l.length := by
    obtain ⟨hm, hl⟩ := checkE_ok.1 g.ok
    obtain ⟨q1, q2, q3, q4⟩ := mayB_true.1 hm
    have := Int.mul_pos (show (0 : Int) < W by omega) (show (0 : Int) < H by omega)
    omega
  obtain ⟨n, hn⟩ : ∃ z, l.length = z := ⟨_, rfl⟩
  obtain ⟨m, hm⟩ : ∃ z, L.length = z := ⟨_, rfl⟩
  have HN := hide hn
  have HM := hide hm
  rw [hn, hm] at HS
  rw [hn] at HNW hpos hl260
  rw [hm] at hl6
  rw [hn, hm]
  have hn1 : ¬ (n : Int) < 1 := by omega
  have hn1' : decide ((n : Int) < 1) = false := by simp; omega
  clear g hr ht hi h hl20 hn hm
  go_enter Tryz.func4, Tryz.ntmps4
  go_wp2_with fail
  have B0 := hide (show Blk (w.alloc (.cells #[.int .i64 W, .int .i64 H, .slice a n c] 26)) w.heap.size 26 #[.int .i64 W, .int .i64 H, .slice a n c] from Blk.new_ rfl)
  refine (HS.out _ (by (with_reducible (repeat' (first | exact Ext.refl _ | assumption | refine Ext.drew ?_ | refine Ext.drewN ?_ _ | refine Ext.alloc ?_ _ | refine Ext.setCell ?_ ?_ _ | refine Ext.trans ?_ (by assumption)))); all_goals (first | (simp; done) | (simp; omega)))).mono ?_
  rintro e w1 ⟨rfl, hb1⟩
  have B1 := hide (B0.out.ext hb1)
  have X1 := hide (show Ext w w1 from (by (with_reducible (repeat' (first | exact Ext.refl _ | assumption | refine Ext.drew ?_ | refine Ext.drewN ?_ _ | refine Ext.alloc ?_ _ | refine Ext.setCell ?_ ?_ _ | refine Ext.trans ?_ (by assumption)))); all_goals (first | (simp; done) | (simp; omega))))
  have y0 := B1.out.at 0 rfl; have y1 := B1.out.at 1 rfl; have y2 := B1.out.at 2 rfl; have yz := B1.out.lt
  clear B0 hb1
  go_wp2_with fail
  refine (HNW.out _ X1.out).mono ?_
  rintro e w2 ⟨p, R, rfl, hw, x2, hF, hR⟩
  have B2 := hide (B1.out.ext x2)
  have X2 := hide (X1.out.trans x2)
  have HW := hide hw
  have HF := hide (show ∀ k, p.F k → w.heap.size < k from fun k hk => by have := hF k hk; have := B1.out.lt; omega)
  have HR0 := hide (show ∀ k, R k → w.heap.size < k from fun k hk => by have := hR k hk; have := B1.out.lt; omega)
  have HFu := hide (show ∀ k, p.F k → k < w2.heap.size from fun k hk => by obtain ⟨G, T, h1, _⟩ := hw; exact h1.foot hk)
  clear hw x2 hF hR y0 y1 y2 yz B1 X1
  have x0 := B2.out.at 0 rfl; have x1 := B2.out.at 1 rfl; have x2 := B2.out.at 2 rfl; have xz := B2.out.lt
  go_wp2_with fail
  clear x0 x1 x2 xz
  go_loopw [9] (fun iv wr => ∃ (k : Nat) (l1 : List Int) (ca : Option Addr) (cc : Nat) (p1 : Spot) (R1 : Nat → Prop), k ≤ m ∧ iv = .int .i64 (k : Int) ∧ (Good W H s l1 ∧ l1.length = n) ∧ Blk wr w.heap.size 26 #[.int .i64 W, .int .i64 H, .slice ca n cc] ∧ (Row16 wr ca l1 ∧ ∀ b off, ca = some ⟨b, off, none⟩ → ¬ p.F b) ∧ WorldAt wr p1 R1 W H s l1 ∧ (p1.b = p.b ∧ (∀ k, p1.F k ↔ p.F k) ∧ ∀ k, R1 k → w.heap.size < k) ∧ Ext w wr ∧ w2.heap.size ≤ wr.heap.size) (fun iv _ => m - (intOf iv).toNat)
  case atStart => exact ⟨0, l, a, c, p, R, Nat.zero_le _, rfl, ⟨HG.out, HN.out⟩, B2.out, ⟨HRW.out.ext X2.out, fun b off e hf => by
    have h1 := HF.out b hf
    subst e
    obtain ⟨b', off', e', hb', _⟩ := HRW.out (by rw [HN.out]; omega)
    injection e' with e'
    injection e' with e1 _ _
    omega⟩, HW.out, ⟨rfl, fun k => Iff.rfl, HR0.out⟩, X2.out, Nat.le_refl _⟩
  case round =>
    obtain ⟨k, l1, ca, cc, p1, R1, hk, rfl, ⟨hg, hln⟩, hb, ⟨hrw, hrf⟩, hw, ⟨hpb, hpf, hrr⟩, hx, hz2⟩ := hrel
    have G1 := hide hg
    have LN := hide hln
    have BR := hide hb
    have RW := hide hrw
    have RF := hide hrf
    have WA := hide hw
    have PB := hide hpb
    have PF := hide hpf
    have RR := hide hrr
    have XR := hide hx
    have zr := hx.size
    clear hg hln hb hrw hrf hw hpb hpf hrr hx B2 X2 HW
    by_cases hlt : k < m
    · obtain ⟨tb, toff, rfl, htb, htc⟩ := HT.out (by rw [HM.out]; omega)
      have hkl : k < L.length := by rw [HM.out]; exact hlt
      obtain ⟨ea, ec, c0, c1, her⟩ := htc k hkl
      obtain ⟨t, ht⟩ : ∃ t, L[k] = t := ⟨_, rfl⟩
      have htm : t ∈ L := by rw [← ht]; exact List.getElem_mem hkl
      rw [ht] at c0 c1 her
      have hE20 := H20.out t htm
      have hEI := HI.out t htm
      obtain ⟨E, hd⟩ := t
      simp only at c0 c1 her hE20 hEI
      have d0 := (XR.out.cell (p := ⟨tb, toff + k * 2, none⟩) htb).trans c0
      have d1 := (XR.out.cell (p := ⟨tb, toff + k * 2 + 1, none⟩) htb).trans c1
      have HTU : Hid (∀ w', Ext wr w' → Calls Tryz.prog 21 #[.agg #[.int .i64 W, .int .i64 H, .slice ca n cc], .agg #[.slice ea E.length ec, .bool hd]] w' (RetTurn w' W H (turnL l1 E) (namedL W n E hd))) := hide (fun w' x => by
        have h := turned_any (w := w') (l := l1) cc G1.out.ok (RW.out.ext x) (by rw [LN.out]; omega) ec (her.ext (XR.out.trans x)) hE20 hEI hd
        rw [LN.out] at h
        exact h)
      obtain ⟨u, hu⟩ : ∃ z, E.length = z := ⟨_, rfl⟩
      rw [hu] at HTU d0
      have HTR := hide (turnL_len l1 E)
      have HNC := hide (namedL_len W n E hd)
      have HE20 := hide hE20
      have hbt : tb < wr.heap.size := by omega
      have jk : (k : Int) < (m : Int) := by omega
      have x0 := BR.out.at 0 rfl; have x1 := BR.out.at 1 rfl; have x2 := BR.out.at 2 rfl; have xz := BR.out.lt
      clear htc hkl c0 c1 her ht htm hE20 hu
      go_wp2_with fail
      refine seqT_start (S := (fun W => (∀ b o, b < wr.heap.size → W.cell? ⟨b, o, none⟩ = wr.cell? ⟨b, o, none⟩) ∧ Ext wr W)) (.take 0 (.take 1 (.take 2 (.take 3 (.take 4 (.step 5 (.take 6 (.take 7 (.take 8 (.step 9 (.step 10 (.take 11 .done) .shut) .shut)))) (.step 9 (.step 5 (.take 6 (.take 7 (.take 8 (.step 10 (.take 11 .done) .shut)))) .shut) .shut))))))) (by kernel_rfl) (by kernel_rfl) (by kernel_rfl) (by decide) (fun _ _ d _ _ h => by cases d <;> exact h) (by first | with_reducible exact pr_start _ | exact pr_of (by (with_reducible (repeat' (first | exact Ext.refl _ | assumption | refine Ext.drew ?_ | refine Ext.drewN ?_ _ | refine Ext.alloc ?_ _ | refine Ext.setCell ?_ ?_ _ | refine Ext.trans ?_ (by assumption)))); all_goals (first | (simp; done) | (simp; omega)))) (fun hHeld => ?_)
      iterate 5 (apply SeqT.free; (· (simp only [List.getElem?_toArray, List.getElem?_cons_succ, List.getElem?_cons_zero]; rfl)); (· first | exact Or.inr ⟨by rfl, rfl⟩ | (refine Or.inl ⟨by rfl, ?_⟩; intro w hSw; (try dsimp only at hSw); go_simp; try with_reducible rfl)); try simp only [Act.put, List.setIfInBounds_toArray, List.set_cons_zero, List.set_cons_succ])
      (apply SeqT.step; (· (simp only [List.getElem?_toArray, List.getElem?_cons_succ, List.getElem?_cons_zero]; rfl)))
      (intro K hK; go_simp; refine (HTU.out _ (by (with_reducible (repeat' (first | exact Ext.refl _ | assumption | refine Ext.drew ?_ | refine Ext.drewN ?_ _ | refine Ext.alloc ?_ _ | refine Ext.setCell ?_ ?_ _ | refine Ext.trans ?_ (by assumption)))); all_goals (first | (simp; done) | (simp; omega)))).mono ?_; rintro e w5 ⟨ga, gc, v5, rfl, x5, og5, oc5⟩; rw [HTR.out, LN.out] at og5 ⊢; obtain ⟨ca5, cc5, rfl⟩ := oc5.slice; have OG := hide (og5.lower (base' := wr.heap.size) (show Ext wr _ from (by (with_reducible (repeat' (first | exact Ext.refl _ | assumption | refine Ext.drew ?_ | refine Ext.drewN ?_ _ | refine Ext.alloc ?_ _ | refine Ext.setCell ?_ ?_ _ | refine Ext.trans ?_ (by assumption)))); all_goals (first | (simp; done) | (simp; omega)))).size); have OC := hide (oc5.lower (base' := wr.heap.size) (show Ext wr _ from (by (with_reducible (repeat' (first | exact Ext.refl _ | assumption | refine Ext.drew ?_ | refine Ext.drewN ?_ _ | refine Ext.alloc ?_ _ | refine Ext.setCell ?_ ?_ _ | refine Ext.trans ?_ (by assumption)))); all_goals (first | (simp; done) | (simp; omega)))).size); (try replace DT := hide (DT.out.ext x5)); (try replace t0 := DT.out.at 0 rfl); (try replace t1 := DT.out.at 1 rfl); (try replace t2 := DT.out.at 2 rfl); (try replace tf0 := DT.out.frozen 0); (try replace tf1 := DT.out.frozen 1); (try replace tf2 := DT.out.frozen 2); (try replace tz := DT.out.lt); clear og5 oc5; go_wp2_with fail; refine hK.out _ _ (pr_of (by (with_reducible (repeat' (first | exact Ext.refl _ | assumption | refine Ext.drew ?_ | refine Ext.drewN ?_ _ | refine Ext.alloc ?_ _ | refine Ext.setCell ?_ ?_ _ | refine Ext.trans ?_ (by assumption)))); all_goals (first | (simp; done) | (simp; omega)))) (fun hHeld => ?_); clear hK K; (try simp only [Act.put, List.setIfInBounds_toArray, List.set_cons_zero, List.set_cons_succ]))
      iterate 3 (apply SeqT.free; (· (simp only [List.getElem?_toArray, List.getElem?_cons_succ, List.getElem?_cons_zero]; rfl)); (· first | exact Or.inr ⟨by rfl, rfl⟩ | (refine Or.inl ⟨by rfl, ?_⟩; intro w hSw; (try dsimp only at hSw); go_simp; try with_reducible rfl)); try simp only [Act.put, List.setIfInBounds_toArray, List.set_cons_zero, List.set_cons_succ])
      (apply SeqT.last; (· (simp only [List.getElem?_toArray, List.getElem?_cons_succ, List.getElem?_cons_zero]; rfl)))
      (intro K hK; go_simp; refine hK.out _ _ (pr_of (by (with_reducible (repeat' (first | exact Ext.refl _ | assumption | refine Ext.drew ?_ | refine Ext.drewN ?_ _ | refine Ext.alloc ?_ _ | refine Ext.setCell ?_ ?_ _ | refine Ext.trans ?_ (by assumption)))); all_goals (first | (simp; done) | (simp; omega)))) (fun hHeld => ?_); clear hK K; (try simp only [Act.put, List.setIfInBounds_toArray, List.set_cons_zero, List.set_cons_succ]); (first | refine SeqT.named ?_ (by assumption) | refine SeqT.namedD ?_ (by assumption)); intro wt dt hxt hzt hSt; have DT := hide dt; have zt3 := blk_ge DT (show wr.heap.size ≤ _ from (show Ext wr _ from (by (with_reducible (repeat' (first | exact Ext.refl _ | assumption | refine Ext.drew ?_ | refine Ext.drewN ?_ _ | refine Ext.alloc ?_ _ | refine Ext.setCell ?_ ?_ _ | refine Ext.trans ?_ (by assumption)))); all_goals (first | (simp; done) | (simp; omega)))).size); clear dt hzt; (try replace OG := hide (OG.out.ext hxt)); (try replace OC := hide (OC.out.ext hxt)); have t0 := DT.out.at 0 rfl; have t1 := DT.out.at 1 rfl; have t2 := DT.out.at 2 rfl; have tf0 := DT.out.frozen 0; have tf1 := DT.out.frozen 1; have tf2 := DT.out.frozen 2; have tz := DT.out.lt)
      (apply SeqT.last; (· (simp only [List.getElem?_toArray, List.getElem?_cons_succ, List.getElem?_cons_zero]; rfl)))
      (intro K hK; go_simp; refine hK.out _ _ (pr_of (by (with_reducible (repeat' (first | exact Ext.refl _ | assumption | refine Ext.drew ?_ | refine Ext.drewN ?_ _ | refine Ext.alloc ?_ _ | refine Ext.setCell ?_ ?_ _ | refine Ext.trans ?_ (by assumption)))); all_goals (first | (simp; done) | (simp; omega)))) (fun hHeld => ?_); clear hK K; (try simp only [Act.put, List.setIfInBounds_toArray, List.set_cons_zero, List.set_cons_succ]); refine SeqT.namedExt hHeld.2 ?_; intro wq hwq xq; have XQ := hide xq; have DQ := hide (show Blk wq _ 26 #[.int .i64 W, .int .i64 H, .slice ga n gc] from hwq ▸ (((DT.out.set_ 0 (.int .i64 W)).set_ 1 (.int .i64 H)).set_ 2 (.slice ga n gc))); have GQ := hide (show Own u16G wq wr.heap.size 83 (.slice ga n gc) (turnL l1 E) from hwq ▸ Own.touch OG.out (touch3 _ _ _ _ _) (fun q hq e => Blk.ne_own DT.out OG.out (by decide) (by rw [← e]; exact hq))); have CQ := hide (show Own cellE wq wr.heap.size 69 (.slice ca5 (namedL W n E hd).length cc5) (namedL W n E hd) from hwq ▸ Own.touch OC.out (touch3 _ _ _ _ _) (fun q hq e => Blk.ne_own DT.out OC.out (by decide) (by rw [← e]; exact hq))); clear hwq hHeld xq t0 t1 t2 tf0 tf1 tf2 tz DT OG OC; have g0 := DQ.out.at 0 rfl; have g1 := DQ.out.at 1 rfl; have g2 := DQ.out.at 2 rfl; have gz := DQ.out.lt)
      iterate 1 (apply SeqT.free; (· (simp only [List.getElem?_toArray, List.getElem?_cons_succ, List.getElem?_cons_zero]; rfl)); (· first | exact Or.inr ⟨by rfl, rfl⟩ | (refine Or.inl ⟨by rfl, ?_⟩; intro w hSw; (try dsimp only at hSw); go_simp; try with_reducible rfl)); try simp only [Act.put, List.setIfInBounds_toArray, List.set_cons_zero, List.set_cons_succ])
      refine SeqT.fin ?_
      rotate_left
      (apply SeqT.last; (· (simp only [List.getElem?_toArray, List.getElem?_cons_succ, List.getElem?_cons_zero]; rfl)))
      (intro K hK; go_simp; refine hK.out _ _ (pr_of (by (with_reducible (repeat' (first | exact Ext.refl _ | assumption | refine Ext.drew ?_ | refine Ext.drewN ?_ _ | refine Ext.alloc ?_ _ | refine Ext.setCell ?_ ?_ _ | refine Ext.trans ?_ (by assumption)))); all_goals (first | (simp; done) | (simp; omega)))) (fun hHeld => ?_); clear hK K; (try simp only [Act.put, List.setIfInBounds_toArray, List.set_cons_zero, List.set_cons_succ]); (first | refine SeqT.named ?_ (by assumption) | refine SeqT.namedD ?_ (by assumption)); intro wt dt hxt hzt hSt; have DT := hide dt; have zt3 := blk_ge DT (show wr.heap.size ≤ _ from (show Ext wr _ from (by (with_reducible (repeat' (first | exact Ext.refl _ | assumption | refine Ext.drew ?_ | refine Ext.drewN ?_ _ | refine Ext.alloc ?_ _ | refine Ext.setCell ?_ ?_ _ | refine Ext.trans ?_ (by assumption)))); all_goals (first | (simp; done) | (simp; omega)))).size); clear dt hzt; (try replace OG := hide (OG.out.ext hxt)); (try replace OC := hide (OC.out.ext hxt)); have t0 := DT.out.at 0 rfl; have t1 := DT.out.at 1 rfl; have t2 := DT.out.at 2 rfl; have tf0 := DT.out.frozen 0; have tf1 := DT.out.frozen 1; have tf2 := DT.out.frozen 2; have tz := DT.out.lt)
      (apply SeqT.last; (· (simp only [List.getElem?_toArray, List.getElem?_cons_succ, List.getElem?_cons_zero]; rfl)))
      (intro K hK; go_simp; refine (HTU.out _ (by (with_reducible (repeat' (first | exact Ext.refl _ | assumption | refine Ext.drew ?_ | refine Ext.drewN ?_ _ | refine Ext.alloc ?_ _ | refine Ext.setCell ?_ ?_ _ | refine Ext.trans ?_ (by assumption)))); all_goals (first | (simp; done) | (simp; omega)))).mono ?_; rintro e w5 ⟨ga, gc, v5, rfl, x5, og5, oc5⟩; rw [HTR.out, LN.out] at og5 ⊢; obtain ⟨ca5, cc5, rfl⟩ := oc5.slice; have OG := hide (og5.lower (base' := wr.heap.size) (show Ext wr _ from (by (with_reducible (repeat' (first | exact Ext.refl _ | assumption | refine Ext.drew ?_ | refine Ext.drewN ?_ _ | refine Ext.alloc ?_ _ | refine Ext.setCell ?_ ?_ _ | refine Ext.trans ?_ (by assumption)))); all_goals (first | (simp; done) | (simp; omega)))).size); have OC := hide (oc5.lower (base' := wr.heap.size) (show Ext wr _ from (by (with_reducible (repeat' (first | exact Ext.refl _ | assumption | refine Ext.drew ?_ | refine Ext.drewN ?_ _ | refine Ext.alloc ?_ _ | refine Ext.setCell ?_ ?_ _ | refine Ext.trans ?_ (by assumption)))); all_goals (first | (simp; done) | (simp; omega)))).size); (try replace DT := hide (DT.out.ext x5)); (try replace t0 := DT.out.at 0 rfl); (try replace t1 := DT.out.at 1 rfl); (try replace t2 := DT.out.at 2 rfl); (try replace tf0 := DT.out.frozen 0); (try replace tf1 := DT.out.frozen 1); (try replace tf2 := DT.out.frozen 2); (try replace tz := DT.out.lt); clear og5 oc5; go_wp2_with fail; refine hK.out _ _ (pr_of (by (with_reducible (repeat' (first | exact Ext.refl _ | assumption | refine Ext.drew ?_ | refine Ext.drewN ?_ _ | refine Ext.alloc ?_ _ | refine Ext.setCell ?_ ?_ _ | refine Ext.trans ?_ (by assumption)))); all_goals (first | (simp; done) | (simp; omega)))) (fun hHeld => ?_); clear hK K; (try simp only [Act.put, List.setIfInBounds_toArray, List.set_cons_zero, List.set_cons_succ]))
      iterate 3 (apply SeqT.free; (· (simp only [List.getElem?_toArray, List.getElem?_cons_succ, List.getElem?_cons_zero]; rfl)); (· first | exact Or.inr ⟨by rfl, rfl⟩ | (refine Or.inl ⟨by rfl, ?_⟩; intro w hSw; (try dsimp only at hSw); go_simp; try with_reducible rfl)); try simp only [Act.put, List.setIfInBounds_toArray, List.set_cons_zero, List.set_cons_succ])
      (apply SeqT.last; (· (simp only [List.getElem?_toArray, List.getElem?_cons_succ, List.getElem?_cons_zero]; rfl)))
      (intro K hK; go_simp; refine hK.out _ _ (pr_of (by (with_reducible (repeat' (first | exact Ext.refl _ | assumption | refine Ext.drew ?_ | refine Ext.drewN ?_ _ | refine Ext.alloc ?_ _ | refine Ext.setCell ?_ ?_ _ | refine Ext.trans ?_ (by assumption)))); all_goals (first | (simp; done) | (simp; omega)))) (fun hHeld => ?_); clear hK K; (try simp only [Act.put, List.setIfInBounds_toArray, List.set_cons_zero, List.set_cons_succ]); refine SeqT.namedExt hHeld.2 ?_; intro wq hwq xq; have XQ := hide xq; have DQ := hide (show Blk wq _ 26 #[.int .i64 W, .int .i64 H, .slice ga n gc] from hwq ▸ (((DT.out.set_ 0 (.int .i64 W)).set_ 1 (.int .i64 H)).set_ 2 (.slice ga n gc))); have GQ := hide (show Own u16G wq wr.heap.size 83 (.slice ga n gc) (turnL l1 E) from hwq ▸ Own.touch OG.out (touch3 _ _ _ _ _) (fun q hq e => Blk.ne_own DT.out OG.out (by decide) (by rw [← e]; exact hq))); have CQ := hide (show Own cellE wq wr.heap.size 69 (.slice ca5 (namedL W n E hd).length cc5) (namedL W n E hd) from hwq ▸ Own.touch OC.out (touch3 _ _ _ _ _) (fun q hq e => Blk.ne_own DT.out OC.out (by decide) (by rw [← e]; exact hq))); clear hwq hHeld xq t0 t1 t2 tf0 tf1 tf2 tz DT OG OC; have g0 := DQ.out.at 0 rfl; have g1 := DQ.out.at 1 rfl; have g2 := DQ.out.at 2 rfl; have gz := DQ.out.lt)
      iterate 1 (apply SeqT.free; (· (simp only [List.getElem?_toArray, List.getElem?_cons_succ, List.getElem?_cons_zero]; rfl)); (· first | exact Or.inr ⟨by rfl, rfl⟩ | (refine Or.inl ⟨by rfl, ?_⟩; intro w hSw; (try dsimp only at hSw); go_simp; try with_reducible rfl)); try simp only [Act.put, List.setIfInBounds_toArray, List.set_cons_zero, List.set_cons_succ])
      refine SeqT.fin ?_
      all_goals
        have zq := XQ.out.size
        have WQ := hide (WA.out.ext XQ.out)
        have BQ := hide (BR.out.ext XQ.out)
        have RWQ := hide (RW.out.ext XQ.out)
        have d1q := (XQ.out.cell (p := ⟨tb, toff + k * 2 + 1, none⟩) hbt).trans d1
        have G2 := hide (show Good W H s (turnL l1 E) from ⟨by rw [turnL_len]; exact G1.out.ok, G1.out.right, turnL_u16 G1.out.u16 E⟩)
        have LN2 := hide (show (turnL l1 E).length = n by rw [HTR.out, LN.out])
        have HUP : Hid (Calls Tryz.prog 22 #[.pointer (some ⟨p.b, 0, none⟩), .agg #[.int .i64 W, .int .i64 H, .slice ga n gc], .slice ca5 (namedL W n E hd).length cc5] wq (Upd wq p1 R1 W H s l1 W H (turnL l1 E) (namedL W n E hd))) := hide (by
          have h := upd_any WQ.out gc (row16_ownG GQ.out) G2.out.u16 cc5 (Reads.rowC CQ.out.reads).2 (by have := HNC.out; have := HE20.out; omega) G2.out.ok (gates_small G2.out (by rw [LN2.out]; omega))
          rw [PB.out, LN2.out] at h
          exact h)
        have HERR := hide (turn_err (H := H) G1.out.ok E hd)
        have HKP := hide (fun (h : hd = false) => (by subst h; exact named_kept G1.out.ok E : keptB W l1 (turnL l1 E) (namedL W l1.length E hd) = true))
        rw [LN.out] at HERR HKP
        (try go_wp2_with fail)
        refine (HUP.out).mono ?_
        clear HUP g0 g1 g2 gz
        rintro e w6 hu
        rcases hu with ⟨hne, rfl, x6⟩ | ⟨he0, v6, p6, R6, rfl, o6, hw6, hb6, hF6, t6, hR6⟩
        · obtain ⟨e1, ehd⟩ : updE W H l1 W H (turnL l1 E) (namedL W n E hd) = 1 ∧ hd = true := by
            rw [HERR.out] at hne ⊢
            by_cases hkp : keptB W l1 (turnL l1 E) (namedL W n E hd) = true
            · rw [if_pos hkp] at hne; exact absurd rfl hne
            · refine ⟨if_neg hkp, ?_⟩
              cases hd
              · exact absurd (HKP.out rfl) hkp
              · rfl
          subst ehd
          rw [e1]
          have B9 := hide (BQ.out.ext x6)
          have G9 := hide G1.out
          have LN9 := hide LN.out
          have RW9 := hide (RWQ.out.ext x6)
          have RF9 := hide RF.out
          have WA9 := hide (WQ.out.ext x6)
          have PB9 := hide PB.out
          have PF9 := hide PF.out
          have RR9 := hide RR.out
          have X9 := hide ((XR.out.trans XQ.out).trans x6)
          have d19 := (x6.cell (p := ⟨tb, toff + k * 2 + 1, none⟩) (show tb < wq.heap.size by omega)).trans d1q
          have z6 := x6.size
          clear x6 hne e1 d0 d1 d1q
          have HN9 := rdNew_yes (w := w6) cc G9.out RW9.out (gates_small G9.out (by rw [LN9.out]; omega))
          rw [LN9.out] at HN9
          have HN9 := hide HN9
          have y0 := B9.out.at 0 rfl; have y1 := B9.out.at 1 rfl; have y2 := B9.out.at 2 rfl; have yz := B9.out.lt
          go_wp2_with fail
          refine (HN9.out).mono ?_
          rintro e w10 ⟨q, S, rfl, hwq, x10, hqF, hqR⟩
          have B10 := hide (B9.out.ext x10)
          have WA10 := hide (WA9.out.ext x10)
          have RW10 := hide (RW9.out.ext x10)
          have X10 := hide (X9.out.trans x10)
          have z10 := x10.size
          have HS1 := hide (fun (w' : World) (x : Ext w10 w') => rdSame_any (WA10.out.ext x) (hwq.ext x) (gates_small G9.out (by rw [LN9.out]; omega)))
          have HS2 := hide (fun (w' : World) (x : Ext w10 w') => rdSame_any (hwq.ext x) (WA10.out.ext x) (gates_small G9.out (by rw [LN9.out]; omega)))
          have HFd : Hid (∀ w', Ext w10 w' → Calls Tryz.prog 25 #[.pointer (some ⟨p1.b, 0, none⟩)] w' (RetField w' W H l1)) := hide (fun w' x => by
            obtain ⟨G, T, h1, _⟩ := WA10.out.ext x
            exact rdField_any h1)
          rw [PB9.out] at HS1 HS2 HFd
          simp only [decide_true] at HS1 HS2
          clear hwq x10 hqF hqR y0 y1 y2 yz HN9 WA9 RW9 B9
          have y0 := B10.out.at 0 rfl; have y1 := B10.out.at 1 rfl; have y2 := B10.out.at 2 rfl; have yz := B10.out.lt
          go_wp2_with fail
          refine seqH_start (S := (fun W => (∀ b o, b < w10.heap.size → W.cell? ⟨b, o, none⟩ = w10.cell? ⟨b, o, none⟩) ∧ Ext w10 W)) [(0, true), (1, true), (2, true), (3, true), (4, true), (5, false), (6, true), (7, true), (8, true), (9, true), (10, true), (11, false), (12, true), (13, true), (14, true), (15, true), (17, true), (16, false), (18, false), (19, true), (20, true)] (by kernel_rfl) (by kernel_rfl) (by kernel_rfl) (by decide) (fun _ _ d _ _ h => by cases d <;> exact h) (by first | with_reducible exact pr_start _ | exact pr_of (by (with_reducible (repeat' (first | exact Ext.refl _ | assumption | refine Ext.drew ?_ | refine Ext.drewN ?_ _ | refine Ext.alloc ?_ _ | refine Ext.setCell ?_ ?_ _ | refine Ext.trans ?_ (by assumption)))); all_goals (first | (simp; done) | (simp; omega)))) (fun hHeld => ?_)
          iterate 5 (apply SeqH.free; (· (simp only [List.getElem?_toArray, List.getElem?_cons_succ, List.getElem?_cons_zero]; rfl)); (· first | exact Or.inr ⟨by rfl, rfl⟩ | (refine Or.inl ⟨by rfl, ?_⟩; intro w hSw; (try dsimp only at hSw); go_simp; try with_reducible rfl)); try simp only [Act.put, List.setIfInBounds_toArray, List.set_cons_zero, List.set_cons_succ])
          (apply SeqH.step; (· (simp only [List.getElem?_toArray, List.getElem?_cons_succ, List.getElem?_cons_zero]; rfl)); intro K hK; go_simp; refine (HS1.out _ (by (with_reducible (repeat' (first | exact Ext.refl _ | assumption | refine Ext.drew ?_ | refine Ext.drewN ?_ _ | refine Ext.alloc ?_ _ | refine Ext.setCell ?_ ?_ _ | refine Ext.trans ?_ (by assumption)))); all_goals (first | (simp; done) | (simp; omega)))).mono ?_; rintro e w11 ⟨rfl, hb11⟩; go_wp2_with fail; refine hK.out _ _ (pr_of (by (with_reducible (repeat' (first | exact Ext.refl _ | assumption | refine Ext.drew ?_ | refine Ext.drewN ?_ _ | refine Ext.alloc ?_ _ | refine Ext.setCell ?_ ?_ _ | refine Ext.trans ?_ (by assumption)))); all_goals (first | (simp; done) | (simp; omega)))) (fun hHeld => ?_); clear hK K; try simp only [Act.put, List.setIfInBounds_toArray, List.set_cons_zero, List.set_cons_succ])
          iterate 5 (apply SeqH.free; (· (simp only [List.getElem?_toArray, List.getElem?_cons_succ, List.getElem?_cons_zero]; rfl)); (· first | exact Or.inr ⟨by rfl, rfl⟩ | (refine Or.inl ⟨by rfl, ?_⟩; intro w hSw; (try dsimp only at hSw); go_simp; try with_reducible rfl)); try simp only [Act.put, List.setIfInBounds_toArray, List.set_cons_zero, List.set_cons_succ])
          (apply SeqH.step; (· (simp only [List.getElem?_toArray, List.getElem?_cons_succ, List.getElem?_cons_zero]; rfl)); intro K hK; go_simp; refine (HS2.out _ (by (with_reducible (repeat' (first | exact Ext.refl _ | assumption | refine Ext.drew ?_ | refine Ext.drewN ?_ _ | refine Ext.alloc ?_ _ | refine Ext.setCell ?_ ?_ _ | refine Ext.trans ?_ (by assumption)))); all_goals (first | (simp; done) | (simp; omega)))).mono ?_; rintro e w12 ⟨rfl, hb12⟩; go_wp2_with fail; refine hK.out _ _ (pr_of (by (with_reducible (repeat' (first | exact Ext.refl _ | assumption | refine Ext.drew ?_ | refine Ext.drewN ?_ _ | refine Ext.alloc ?_ _ | refine Ext.setCell ?_ ?_ _ | refine Ext.trans ?_ (by assumption)))); all_goals (first | (simp; done) | (simp; omega)))) (fun hHeld => ?_); clear hK K; try simp only [Act.put, List.setIfInBounds_toArray, List.set_cons_zero, List.set_cons_succ])
          iterate 5 (apply SeqH.free; (· (simp only [List.getElem?_toArray, List.getElem?_cons_succ, List.getElem?_cons_zero]; rfl)); (· first | exact Or.inr ⟨by rfl, rfl⟩ | (refine Or.inl ⟨by rfl, ?_⟩; intro w hSw; (try dsimp only at hSw); go_simp; try with_reducible rfl)); try simp only [Act.put, List.setIfInBounds_toArray, List.set_cons_zero, List.set_cons_succ])
          (apply SeqH.step; (· (simp only [List.getElem?_toArray, List.getElem?_cons_succ, List.getElem?_cons_zero]; rfl)); intro K hK; go_simp; refine (HFd.out _ (by (with_reducible (repeat' (first | exact Ext.refl _ | assumption | refine Ext.drew ?_ | refine Ext.drewN ?_ _ | refine Ext.alloc ?_ _ | refine Ext.setCell ?_ ?_ _ | refine Ext.trans ?_ (by assumption)))); all_goals (first | (simp; done) | (simp; omega)))).mono ?_; rintro e w13 ⟨fa, fc, rfl, hb13, o13⟩; have O13 := hide o13; clear o13; go_wp2_with fail; refine hK.out _ _ (pr_of (by (with_reducible (repeat' (first | exact Ext.refl _ | assumption | refine Ext.drew ?_ | refine Ext.drewN ?_ _ | refine Ext.alloc ?_ _ | refine Ext.setCell ?_ ?_ _ | refine Ext.trans ?_ (by assumption)))); all_goals (first | (simp; done) | (simp; omega)))) (fun hHeld => ?_); clear hK K; try simp only [Act.put, List.setIfInBounds_toArray, List.set_cons_zero, List.set_cons_succ])
          (apply SeqH.step; (· (simp only [List.getElem?_toArray, List.getElem?_cons_succ, List.getElem?_cons_zero]; rfl)); intro K hK; go_simp; refine ((by have h := gSame_any W H fa ca l1 l1 fc cc w13 (by rw [LN9.out]; omega) (row16_ownG O13.out) (RW10.out.ext (by (with_reducible (repeat' (first | exact Ext.refl _ | assumption | refine Ext.drew ?_ | refine Ext.drewN ?_ _ | refine Ext.alloc ?_ _ | refine Ext.setCell ?_ ?_ _ | refine Ext.trans ?_ (by assumption)))); all_goals (first | (simp; done) | (simp; omega)))); rw [LN9.out] at h; simp only [decide_true] at h; rw [LN9.out]; exact h : Calls _ _ _ _ (fun e w' => e = .returned (.bool true) ∧ Ext w13 w'))).mono ?_; rintro e w14 ⟨rfl, hb14⟩; go_wp2_with fail; refine hK.out _ _ (pr_of (by (with_reducible (repeat' (first | exact Ext.refl _ | assumption | refine Ext.drew ?_ | refine Ext.drewN ?_ _ | refine Ext.alloc ?_ _ | refine Ext.setCell ?_ ?_ _ | refine Ext.trans ?_ (by assumption)))); all_goals (first | (simp; done) | (simp; omega)))) (fun hHeld => ?_); clear hK K; try simp only [Act.put, List.setIfInBounds_toArray, List.set_cons_zero, List.set_cons_succ])
          iterate 2 (apply SeqH.free; (· (simp only [List.getElem?_toArray, List.getElem?_cons_succ, List.getElem?_cons_zero]; rfl)); (· first | exact Or.inr ⟨by rfl, rfl⟩ | (refine Or.inl ⟨by rfl, ?_⟩; intro w hSw; (try dsimp only at hSw); go_simp; try with_reducible rfl)); try simp only [Act.put, List.setIfInBounds_toArray, List.set_cons_zero, List.set_cons_succ])
          refine SeqH.done ?_
          have XE := hide hHeld.2
          have ze := XE.out.size
          clear hHeld
          go_wp2_with fail
          go_roundw
          case rel => exact ⟨k + 1, l1, ca, cc, p1, R1, by omega, by go_num, ⟨G9.out, LN9.out⟩, B10.out.ext XE.out, ⟨RW10.out.ext XE.out, RF9.out⟩, WA10.out.ext XE.out, ⟨PB9.out, PF9.out, RR9.out⟩, X10.out.trans XE.out, by omega⟩
          case measure => simp [intOf]; omega
        · have HE0 := hide he0
          have hFF : ∀ k, p.F k → k < w2.heap.size := HFu.out
          have B6 := hide (BQ.out.touch t6 (fun h => by have := HF.out _ ((PF.out _).1 h); omega))
          have D6 := hide (DQ.out.touch t6 (fun h => by have := hFF _ ((PF.out _).1 h); omega))
          have O6 := hide (GQ.out.touch t6 (fun q hq h => by have := hFF _ ((PF.out _).1 h); have := (own_lt GQ.out hq).1; omega))
          have X6 := hide ((XR.out.trans XQ.out).of_below (t6.to_below (XR.out.trans XQ.out).size (fun q h => by have := HF.out _ ((PF.out _).1 h); omega)) (Nat.le_refl _))
          have W6 := hide hw6
          have PB6 := hide (hb6.trans PB.out)
          have PF6 := hide (fun k => (hF6 k).trans (PF.out k))
          have RR6 := hide (show ∀ k, R6 k → w.heap.size < k from fun k hk => (hR6 k hk).elim (RR.out k) (fun h => by omega))
          have z6 := t6.size
          clear he0 o6 hw6 hb6 hF6 t6 hR6 d0 d1 d1q
          have g0 := D6.out.at 0 rfl
          have g1 := D6.out.at 1 rfl
          have g2 := D6.out.at 2 rfl
          have gz := D6.out.lt
          have y0 := B6.out.at 0 rfl; have y1 := B6.out.at 1 rfl; have y2 := B6.out.at 2 rfl; have yz := B6.out.lt
          have f0 := B6.out.frozen 0
          have f1 := B6.out.frozen 1
          have f2 := B6.out.frozen 2
          go_wp2_with fail
          obtain ⟨w8, hw8⟩ : ∃ z, z = ((w6.setCell ⟨w.heap.size, 0, none⟩ (.int .i64 W)).setCell ⟨w.heap.size, 1, none⟩ (.int .i64 H)).setCell ⟨w.heap.size, 2, none⟩ (.slice ga n gc) := ⟨_, rfl⟩
          have T8 : Touch (fun j => j = w.heap.size) w6 w8 := by rw [hw8]; exact touch3 w6 w.heap.size _ _ _
          have B9 := hide (show Blk w8 w.heap.size 26 #[.int .i64 W, .int .i64 H, .slice ga n gc] by rw [hw8]; exact ((B6.out.set_ 0 (.int .i64 W)).set_ 1 (.int .i64 H)).set_ 2 (.slice ga n gc))
          have O8 := hide (O6.out.touch T8 (fun q hq h => by have := (own_lt O6.out hq).1; omega))
          have G9 := hide G2.out
          have LN9 := hide LN2.out
          have RW9 := hide (row16_ownG O8.out)
          have RF9 := hide (show ∀ b off, ga = some ⟨b, off, none⟩ → ¬ p.F b from fun b off h hf => by
            have h1 := hFF b hf
            subst h
            have h2 := (own_lt O8.out (k := b) rfl).1
            omega)
          have WA9 := hide (W6.out.touch T8 (fun k hk h => by have := HF.out _ ((PF6.out _).1 hk); omega) (fun k hk h => by have := RR6.out k hk; omega))
          have PB9 := hide PB6.out
          have PF9 := hide PF6.out
          have RR9 := hide RR6.out
          have X9 := hide (X6.out.of_below (T8.to_below X6.out.size (fun j h => by omega)) (Nat.le_refl _))
          have z8 := T8.size
          rw [← hw8]
          clear hw8 T8 g0 g1 g2 gz f0 f1 f2
          have HN9 := rdNew_yes (w := w8) gc G9.out RW9.out (gates_small G9.out (by rw [LN9.out]; omega))
          rw [LN9.out] at HN9
          have HN9 := hide HN9
          refine (HN9.out).mono ?_
          rintro e w10 ⟨q, S, rfl, hwq, x10, hqF, hqR⟩
          have B10 := hide (B9.out.ext x10)
          have WA10 := hide (WA9.out.ext x10)
          have RW10 := hide (RW9.out.ext x10)
          have X10 := hide (X9.out.trans x10)
          have z10 := x10.size
          have HS1 := hide (fun (w' : World) (x : Ext w10 w') => rdSame_any (WA10.out.ext x) (hwq.ext x) (gates_small G9.out (by rw [LN9.out]; omega)))
          have HS2 := hide (fun (w' : World) (x : Ext w10 w') => rdSame_any (hwq.ext x) (WA10.out.ext x) (gates_small G9.out (by rw [LN9.out]; omega)))
          have HFd : Hid (∀ w', Ext w10 w' → Calls Tryz.prog 25 #[.pointer (some ⟨p6.b, 0, none⟩)] w' (RetField w' W H (turnL l1 E))) := hide (fun w' x => by
            obtain ⟨G, T, h1, _⟩ := WA10.out.ext x
            exact rdField_any h1)
          rw [PB9.out] at HS1 HS2 HFd
          simp only [decide_true] at HS1 HS2
          clear hwq x10 hqF hqR y0 y1 y2 yz HN9 WA9 RW9 B9
          have y0 := B10.out.at 0 rfl; have y1 := B10.out.at 1 rfl; have y2 := B10.out.at 2 rfl; have yz := B10.out.lt
          go_wp2_with fail
          refine seqH_start (S := (fun W => (∀ b o, b < w10.heap.size → W.cell? ⟨b, o, none⟩ = w10.cell? ⟨b, o, none⟩) ∧ Ext w10 W)) [(0, true), (1, true), (2, true), (3, true), (4, true), (5, false), (6, true), (7, true), (8, true), (9, true), (10, true), (11, false), (12, true), (13, true), (14, true), (15, true), (17, true), (16, false), (18, false), (19, true), (20, true)] (by kernel_rfl) (by kernel_rfl) (by kernel_rfl) (by decide) (fun _ _ d _ _ h => by cases d <;> exact h) (by first | with_reducible exact pr_start _ | exact pr_of (by (with_reducible (repeat' (first | exact Ext.refl _ | assumption | refine Ext.drew ?_ | refine Ext.drewN ?_ _ | refine Ext.alloc ?_ _ | refine Ext.setCell ?_ ?_ _ | refine Ext.trans ?_ (by assumption)))); all_goals (first | (simp; done) | (simp; omega)))) (fun hHeld => ?_)
          iterate 5 (apply SeqH.free; (· (simp only [List.getElem?_toArray, List.getElem?_cons_succ, List.getElem?_cons_zero]; rfl)); (· first | exact Or.inr ⟨by rfl, rfl⟩ | (refine Or.inl ⟨by rfl, ?_⟩; intro w hSw; (try dsimp only at hSw); go_simp; try with_reducible rfl)); try simp only [Act.put, List.setIfInBounds_toArray, List.set_cons_zero, List.set_cons_succ])
          (apply SeqH.step; (· (simp only [List.getElem?_toArray, List.getElem?_cons_succ, List.getElem?_cons_zero]; rfl)); intro K hK; go_simp; refine (HS1.out _ (by (with_reducible (repeat' (first | exact Ext.refl _ | assumption | refine Ext.drew ?_ | refine Ext.drewN ?_ _ | refine Ext.alloc ?_ _ | refine Ext.setCell ?_ ?_ _ | refine Ext.trans ?_ (by assumption)))); all_goals (first | (simp; done) | (simp; omega)))).mono ?_; rintro e w11 ⟨rfl, hb11⟩; go_wp2_with fail; refine hK.out _ _ (pr_of (by (with_reducible (repeat' (first | exact Ext.refl _ | assumption | refine Ext.drew ?_ | refine Ext.drewN ?_ _ | refine Ext.alloc ?_ _ | refine Ext.setCell ?_ ?_ _ | refine Ext.trans ?_ (by assumption)))); all_goals (first | (simp; done) | (simp; omega)))) (fun hHeld => ?_); clear hK K; try simp only [Act.put, List.setIfInBounds_toArray, List.set_cons_zero, List.set_cons_succ])
          iterate 5 (apply SeqH.free; (· (simp only [List.getElem?_toArray, List.getElem?_cons_succ, List.getElem?_cons_zero]; rfl)); (· first | exact Or.inr ⟨by rfl, rfl⟩ | (refine Or.inl ⟨by rfl, ?_⟩; intro w hSw; (try dsimp only at hSw); go_simp; try with_reducible rfl)); try simp only [Act.put, List.setIfInBounds_toArray, List.set_cons_zero, List.set_cons_succ])
          (apply SeqH.step; (· (simp only [List.getElem?_toArray, List.getElem?_cons_succ, List.getElem?_cons_zero]; rfl)); intro K hK; go_simp; refine (HS2.out _ (by (with_reducible (repeat' (first | exact Ext.refl _ | assumption | refine Ext.drew ?_ | refine Ext.drewN ?_ _ | refine Ext.alloc ?_ _ | refine Ext.setCell ?_ ?_ _ | refine Ext.trans ?_ (by assumption)))); all_goals (first | (simp; done) | (simp; omega)))).mono ?_; rintro e w12 ⟨rfl, hb12⟩; go_wp2_with fail; refine hK.out _ _ (pr_of (by (with_reducible (repeat' (first | exact Ext.refl _ | assumption | refine Ext.drew ?_ | refine Ext.drewN ?_ _ | refine Ext.alloc ?_ _ | refine Ext.setCell ?_ ?_ _ | refine Ext.trans ?_ (by assumption)))); all_goals (first | (simp; done) | (simp; omega)))) (fun hHeld => ?_); clear hK K; try simp only [Act.put, List.setIfInBounds_toArray, List.set_cons_zero, List.set_cons_succ])
          iterate 5 (apply SeqH.free; (· (simp only [List.getElem?_toArray, List.getElem?_cons_succ, List.getElem?_cons_zero]; rfl)); (· first | exact Or.inr ⟨by rfl, rfl⟩ | (refine Or.inl ⟨by rfl, ?_⟩; intro w hSw; (try dsimp only at hSw); go_simp; try with_reducible rfl)); try simp only [Act.put, List.setIfInBounds_toArray, List.set_cons_zero, List.set_cons_succ])
          (apply SeqH.step; (· (simp only [List.getElem?_toArray, List.getElem?_cons_succ, List.getElem?_cons_zero]; rfl)); intro K hK; go_simp; refine (HFd.out _ (by (with_reducible (repeat' (first | exact Ext.refl _ | assumption | refine Ext.drew ?_ | refine Ext.drewN ?_ _ | refine Ext.alloc ?_ _ | refine Ext.setCell ?_ ?_ _ | refine Ext.trans ?_ (by assumption)))); all_goals (first | (simp; done) | (simp; omega)))).mono ?_; rintro e w13 ⟨fa, fc, rfl, hb13, o13⟩; have O13 := hide o13; clear o13; go_wp2_with fail; refine hK.out _ _ (pr_of (by (with_reducible (repeat' (first | exact Ext.refl _ | assumption | refine Ext.drew ?_ | refine Ext.drewN ?_ _ | refine Ext.alloc ?_ _ | refine Ext.setCell ?_ ?_ _ | refine Ext.trans ?_ (by assumption)))); all_goals (first | (simp; done) | (simp; omega)))) (fun hHeld => ?_); clear hK K; try simp only [Act.put, List.setIfInBounds_toArray, List.set_cons_zero, List.set_cons_succ])
          (apply SeqH.step; (· (simp only [List.getElem?_toArray, List.getElem?_cons_succ, List.getElem?_cons_zero]; rfl)); intro K hK; go_simp; refine ((by have h := gSame_any W H fa ga (turnL l1 E) (turnL l1 E) fc gc w13 (by rw [LN9.out]; omega) (row16_ownG O13.out) (RW10.out.ext (by (with_reducible (repeat' (first | exact Ext.refl _ | assumption | refine Ext.drew ?_ | refine Ext.drewN ?_ _ | refine Ext.alloc ?_ _ | refine Ext.setCell ?_ ?_ _ | refine Ext.trans ?_ (by assumption)))); all_goals (first | (simp; done) | (simp; omega)))); rw [LN9.out] at h; simp only [decide_true] at h; rw [LN9.out]; exact h : Calls _ _ _ _ (fun e w' => e = .returned (.bool true) ∧ Ext w13 w'))).mono ?_; rintro e w14 ⟨rfl, hb14⟩; go_wp2_with fail; refine hK.out _ _ (pr_of (by (with_reducible (repeat' (first | exact Ext.refl _ | assumption | refine Ext.drew ?_ | refine Ext.drewN ?_ _ | refine Ext.alloc ?_ _ | refine Ext.setCell ?_ ?_ _ | refine Ext.trans ?_ (by assumption)))); all_goals (first | (simp; done) | (simp; omega)))) (fun hHeld => ?_); clear hK K; try simp only [Act.put, List.setIfInBounds_toArray, List.set_cons_zero, List.set_cons_succ])
          iterate 2 (apply SeqH.free; (· (simp only [List.getElem?_toArray, List.getElem?_cons_succ, List.getElem?_cons_zero]; rfl)); (· first | exact Or.inr ⟨by rfl, rfl⟩ | (refine Or.inl ⟨by rfl, ?_⟩; intro w hSw; (try dsimp only at hSw); go_simp; try with_reducible rfl)); try simp only [Act.put, List.setIfInBounds_toArray, List.set_cons_zero, List.set_cons_succ])
          refine SeqH.done ?_
          have XE := hide hHeld.2
          have ze := XE.out.size
          clear hHeld
          go_wp2_with fail
          go_roundw
          case rel => exact ⟨k + 1, (turnL l1 E), ga, gc, p6, R6, by omega, by go_num, ⟨G9.out, LN9.out⟩, B10.out.ext XE.out, ⟨RW10.out.ext XE.out, RF9.out⟩, WA10.out.ext XE.out, ⟨PB9.out, PF9.out, RR9.out⟩, X10.out.trans XE.out, by omega⟩
          case measure => simp [intOf]; omega
    · obtain rfl : m = k := by omega
      go_wp2_with fail
      refine (awake14_any _).mono ?_
      rintro e w3 ⟨rfl, hb3⟩
      go_wp2_with fail
      go_ret
      exact ⟨rfl, XR.out.trans hb3⟩
end Go.Proofs.YtkioohhjjdlhiaaGreat
