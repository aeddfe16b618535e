/- The walk of RedoUpdates. -/
import Derived.Test.YtkioohhjjdlhiaaGreatRefW
import Derived.Test.YtkioohhjjdlhiaaGreatRefK
import Derived.Test.YtkioohhjjdlhiaaGreatTurnP
import Derived.Test.YtkioohhjjdlhiaaGreatAwake14
set_option linter.all false
set_option linter.unusedVariables false
set_option linter.unusedSimpArgs false
namespace Go.Proofs.YtkioohhjjdlhiaaGreat
open Go.RowKit

set_option maxRecDepth 100000 in
theorem ru_far {w : World} (W H : Int) (a : Option Addr) (n c : Nat) (s : Int) {ta : Option Addr} {L : List (List (Int × Int) × Bool)} (tc : Nat) (ht : TurnsAt w ta L) (hl : L.length ≤ 9223372036854775807) (h : smallT n L = false) :
  Calls Tryz.prog 5 #[.agg #[.int .i64 W, .int .i64 H, .slice a n c], .int .i64 s, .slice ta L.length tc] w fun e w' => e = .returned (.bool true) ∧ Ext w w' := by
 have HS := hide (fun (w' : World) (x : Ext w w') => small14_any (w := w') W H a n c tc (ht.ext x) hl)
 rw [h] at HS
 obtain ⟨m, hm⟩ : ∃ z, L.length = z := ⟨_, rfl⟩
 rw [hm] at HS ⊢
 clear ht hl h hm
 go_enter Tryz.func5, Tryz.ntmps5
 go_wp2_with fail
 refine (HS.out _ (by (with_reducible (repeat' (first | exact z_r _ | assumption | refine z_d ?_ | refine z_n ?_ _ | refine z_a ?_ _ | refine z_s ?_ ?_ _ | refine z_t ?_ (by assumption)))); all_goals (simp <;> omega))).mono ?_
 rintro e w1 ⟨rfl, hb1⟩
 go_wp2_with fail
 refine (awake14_any _).mono ?_
 rintro e w2 ⟨rfl, hb2⟩
 go_wp2_with fail
 go_ret
 exact ⟨rfl, (by (with_reducible (repeat' (first | exact z_r _ | assumption | refine z_d ?_ | refine z_n ?_ _ | refine z_a ?_ _ | refine z_s ?_ ?_ _ | refine z_t ?_ (by assumption)))); all_goals (simp <;> omega))⟩

set_option maxRecDepth 100000 in
theorem ru_bad {w : World} (W H : Int) (a : Option Addr) (n c : Nat) (s : Int) {ta : Option Addr} {L : List (List (Int × Int) × Bool)} (tc : Nat) (ht : TurnsAt w ta L) (hl : L.length ≤ 9223372036854775807) (h : smallT n L = true) (he : newE W H n s ≠ 0) :
  Calls Tryz.prog 5 #[.agg #[.int .i64 W, .int .i64 H, .slice a n c], .int .i64 s, .slice ta L.length tc] w fun e w' => e = .returned (.bool true) ∧ Ext w w' := by
 have HS := hide (fun (w' : World) (x : Ext w w') => small14_any (w := w') W H a n c tc (ht.ext x) hl)
 rw [h] at HS
 have HM := hide (fun (w' : World) => r14May_any (w := w') W H a n c s)
 generalize newE W H n s = er at *
 have hne : (er != 0) = true := by simpa using he
 obtain ⟨m, hm⟩ : ∃ z, L.length = z := ⟨_, rfl⟩
 rw [hm] at HS ⊢
 clear ht hl h hm he
 go_enter Tryz.func5, Tryz.ntmps5
 go_wp2_with fail
 refine (HS.out _ (by (with_reducible (repeat' (first | exact z_r _ | assumption | refine z_d ?_ | refine z_n ?_ _ | refine z_a ?_ _ | refine z_s ?_ ?_ _ | refine z_t ?_ (by assumption)))); all_goals (simp <;> omega))).mono ?_
 rintro e w1 ⟨rfl, hb1⟩
 obtain ⟨hc1, hf1⟩ := hb1.cells; have hz1 := hb1.size; (repeat (first | rw [World.size_alloc] at hz1 | rw [World.size_drew] at hz1)); have z1_0 : w.heap.size < w1.heap.size := (by omega)
 go_wp2_with fail
 refine (HM.out _).mono ?_
 rintro e w3 ⟨rfl, hb3⟩
 go_wp2_with fail
 refine (awake14_any _).mono ?_
 rintro e w2 ⟨rfl, hb2⟩
 go_wp2_with fail
 go_ret
 exact ⟨rfl, (by (with_reducible (repeat' (first | exact z_r _ | assumption | refine z_d ?_ | refine z_n ?_ _ | refine z_a ?_ _ | refine z_s ?_ ?_ _ | refine z_t ?_ (by assumption)))); all_goals (simp <;> omega))⟩

theorem gates_fewU {W H s : Int} {l : List Int} (g : Good W H s l) (hl : l.length ≤ 260) : cnt W H s ≤ 260 ∧ (gatesA W H s l).length ≤ 50000 := by
 have h1 : cnt W H s ≤ W * H := by
  obtain ⟨r1, r2, r3, r4, r5, r6⟩ := rightB_true.1 g.right
  have b1 := acr_bd W s r5 r6 r1 r2
  have b2 := acr_bd H s r5 r6 r3 r4
  have hle : ∀ L : Int, 1 ≤ L → acr L s ≤ L := fun L hL => by
   unfold acr
   apply Int.ediv_le_of_le_mul (by omega)
   have := Int.mul_nonneg (show (0 : Int) ≤ L - 1 by omega) (show (0 : Int) ≤ s - 1 by omega)
   rw [Int.sub_mul, Int.mul_sub] at this
   omega
  unfold cnt
  exact Int.mul_le_mul (hle W r1) (hle H r3) (by omega) (by omega)
 have h2 := (checkE_ok.1 g.ok).2
 have h3 := g.cnt
 have h4 := ofG_len (l := l) g.right (n := (cnt W H s).toNat) (by omega)
 refine ⟨by omega, ?_⟩
 unfold gatesA
 omega

set_option maxRecDepth 100000 in
set_option maxHeartbeats 4000000 in
theorem ru_main {w : World} {W H : Int} {a : Option Addr} {l : List Int} (c : Nat) {s : Int} {ta : Option Addr} {L : List (List (Int × Int) × Bool)} (tc : Nat) (g : Good W H s l) (hr : Row16 w a l) (ht : TurnsAt w ta L) (hi : ∀ t ∈ L, ∀ e ∈ t.1, InI e.1 ∧ InI e.2) (h : smallT l.length L = true) :
  Calls Tryz.prog 5 #[.agg #[.int .i64 W, .int .i64 H, .slice a l.length c], .int .i64 s, .slice ta L.length tc] w fun e w' => e = .returned (.bool true) ∧ Ext w w' := by
 obtain ⟨hl260, hl6, hl20⟩ := smallT_true h
 have HS := hide (fun (w' : World) (x : Ext w w') => small14_any (w := w') W H a l.length c tc (ht.ext x) (by omega))
 rw [h] at HS
 have HM := hide (fun (w' : World) => r14May_any (w := w') W H a l.length c s)
 rw [show newE W H l.length s = 0 by unfold newE; rw [if_pos g.ok, if_pos g.right]] at HM
 have HG := hide g
 have HT := hide ht
 have HI := hide hi
 have H20 := hide hl20
 have HNW := hide (fun (w' : World) (x : Ext w w') => rdNew_yes (w := w') c g (hr.ext x) (gates_fewU g hl260).2)
 have HNR := hide (fun (w' : World) (x : Ext w w') => r14New_any (w := w') c g (hr.ext x) (gates_fewU g hl260).2)
 have HRW := hide hr
 have HGS := hide (fun (l' : List Int) (g' : Good W H s l') (h' : l'.length = l.length) => (gates_fewU g' (by omega)).2)
 have bcn := g.cnt
 obtain ⟨N, hN⟩ : ∃ N : Nat, (cnt W H s).toNat = N := ⟨_, rfl⟩
 have HCN := hide hN
 have hN2 : N ≤ 260 := by have := (gates_fewU g hl260).1; omega
 obtain ⟨n, hn⟩ : ∃ z, l.length = z := ⟨_, rfl⟩
 obtain ⟨m, hm⟩ : ∃ z, L.length = z := ⟨_, rfl⟩
 have HN := hide hn
 have HMM := hide hm
 rw [hn, hm] at HS
 rw [hn] at HNW HNR HM hl260 HGS
 rw [hm] at hl6
 rw [hn, hm]
 clear g hr ht hi h hl20 hn hm bcn hN
 go_enter Tryz.func5, Tryz.ntmps5
 go_wp2_with fail
 refine (HS.out _ (by (with_reducible (repeat' (first | exact z_r _ | assumption | refine z_d ?_ | refine z_n ?_ _ | refine z_a ?_ _ | refine z_s ?_ ?_ _ | refine z_t ?_ (by assumption)))); all_goals (simp <;> omega))).mono ?_
 rintro e w1 ⟨rfl, hb1⟩
 have B1 := hide (show Blk w1 w.heap.size 26 #[.int .i64 W, .int .i64 H, .slice a n c] from by refine Blk.ext ?_ hb1; exact Blk.new_ rfl)
 have X1 := hide (show Ext w w1 from (by (with_reducible (repeat' (first | exact z_r _ | assumption | refine z_d ?_ | refine z_n ?_ _ | refine z_a ?_ _ | refine z_s ?_ ?_ _ | refine z_t ?_ (by assumption)))); all_goals (simp <;> omega)))
 have y0 := B1.out.at 0 rfl; have y1 := B1.out.at 1 rfl; have y2 := B1.out.at 2 rfl; have yz := B1.out.lt
 clear hb1
 go_wp2_with fail
 refine (HM.out _).mono ?_
 rintro e w1b ⟨rfl, x1b⟩
 have B1b := hide (B1.out.ext x1b)
 have X1b := hide (X1.out.trans x1b)
 clear x1b y0 y1 y2 yz B1 X1
 have y0 := B1b.out.at 0 rfl; have y1 := B1b.out.at 1 rfl; have y2 := B1b.out.at 2 rfl; have yz := B1b.out.lt
 go_wp2_with fail
 refine (HNW.out _ X1b.out).mono ?_
 rintro e w2 ⟨p, R, rfl, hw, x2, hF, hR⟩
 have B2 := hide (B1b.out.ext x2)
 have X2 := hide (X1b.out.trans x2)
 have HW := hide hw
 have HF := hide (show ∀ k, p.F k → w.heap.size < k ∧ k < w2.heap.size from fun k hk => ⟨by have := hF k hk; have := B1b.out.lt; omega, by obtain ⟨G, T, h1, _⟩ := hw; exact h1.foot hk⟩)
 clear hw x2 hF hR y0 y1 y2 yz B1b X1b
 have y0 := B2.out.at 0 rfl; have y1 := B2.out.at 1 rfl; have y2 := B2.out.at 2 rfl; have yz := B2.out.lt
 go_wp2_with fail
 refine (HNR.out _ X2.out).mono ?_
 rintro e w3 ⟨q, rfl, x3, hq, _, _, _⟩
 have HQ := hide hq
 have W3 := hide (HW.out.ext x3)
 have X3 := hide (X2.out.trans x3)
 have z3 := x3.size
 have HQF := hide (show ∀ k, ((w2.heap.size ≤ k ∧ k < w3.heap.size) ∨ ∃ o, a = some ⟨k, o, none⟩) → ¬ p.F k from fun k hk hf => by
  have h1 := HF.out k hf
  rcases hk with h2 | ⟨o, h2⟩
  ·omega
  ·obtain ⟨b', off', e', hb', _⟩ := HRW.out (by
    rw [HN.out]
    have h4 := (checkE_ok.1 HG.out.ok)
    obtain ⟨q1, q2, q3, q4⟩ := mayB_true.1 h4.1
    have h5 := Int.mul_pos (show (0 : Int) < W by omega) (show (0 : Int) < H by omega)
    have h6 := HN.out
    omega)
   rw [h2] at e'
   injection e' with e'
   injection e' with e1 _ _
   omega)
 clear x3 hq y0 y1 y2 yz X2 HW B2 HM HNW HNR HS
 go_wp2_with fail
 go_loopw [9, 10] (fun rv iv wr => ∃ (k : Nat) (l1 : List Int) (p1 : Spot) (R1 : Nat → Prop) (q1 : RSpot) (R2 : Nat → Prop), k ≤ m ∧ iv = .int .i64 (k : Int) ∧ rv = .pointer (some ⟨q1.b, 0, none⟩) ∧ (Good W H s l1 ∧ l1.length = n) ∧ WorldAt wr p1 R1 W H s l1 ∧ RefAt wr q1 R2 W H s l1 ∧ (p1.b = p.b ∧ (∀ k, p1.F k ↔ p.F k)) ∧ (∀ k, R2 k → ¬ p.F k) ∧ Ext w wr ∧ w2.heap.size ≤ wr.heap.size) (fun _ iv _ => m - (intOf iv).toNat)
 case atStart => exact ⟨0, l, p, R, q, _, Nat.zero_le _, rfl, rfl, ⟨HG.out, HN.out⟩, W3.out, HQ.out, ⟨rfl, fun k => Iff.rfl⟩, HQF.out, X3.out, z3⟩
 case round =>
  obtain ⟨k, l1, p1, R1, q1, R2, hk, rfl, rfl, ⟨hg, hln⟩, hw, hq, ⟨hpb, hpf⟩, hrr, hx, hz2⟩ := hrel
  have G1 := hide hg
  have LN := hide hln
  have WA := hide hw
  have QA := hide hq
  have PB := hide hpb
  have PF := hide hpf
  have RR := hide hrr
  have XR := hide hx
  have zr := hx.size
  clear hg hln hw hq hpb hpf hrr hx HQ W3 X3 HQF
  by_cases hlt : k < m
  ·obtain ⟨tb, toff, rfl, htb, htc⟩ := HT.out (by rw [HMM.out]; omega)
   have hkl : k < L.length := by rw [HMM.out]; exact hlt
   obtain ⟨ea, ec, c0, c1, her⟩ := htc k hkl
   obtain ⟨t, ht⟩ : ∃ t, L[k] = t := ⟨_, rfl⟩
   have htm : t ∈ L := by rw [← ht]; exact List.getElem_mem hkl
   rw [ht] at c0 c1 her
   have hE20 := H20.out t htm
   have hEI := HI.out t htm
   obtain ⟨E, hd⟩ := t
   simp only at c0 c1 her hE20 hEI
   have d0 := (XR.out.cell (p := ⟨tb, toff + k * 2, none⟩) htb).trans c0
   have d1 := (XR.out.cell (p := ⟨tb, toff + k * 2 + 1, none⟩) htb).trans c1
   have RB := hide QA.out.blk
   unfold refCells at RB
   have RWq := hide QA.out.row
   obtain ⟨ca, hca⟩ : ∃ z, q1.a = z := ⟨_, rfl⟩
   obtain ⟨cc, hcc⟩ : ∃ z, q1.c = z := ⟨_, rfl⟩
   rw [hca, hcc, LN.out] at RB
   rw [hca] at RWq
   have HTU : Hid (∀ w', Ext wr w' → Calls Tryz.prog 21 #[.agg #[.int .i64 W, .int .i64 H, .slice ca n cc], .agg #[.slice ea E.length ec, .bool hd]] w' (RetTurn w' W H (turnL l1 E) (namedL W n E hd))) := hide (fun w' x => by
    have h := turned_any (w := w') (l := l1) cc G1.out.ok (RWq.out.ext x) (by rw [LN.out]; omega) ec (her.ext (XR.out.trans x)) hE20 hEI hd
    rw [LN.out] at h
    exact h)
   obtain ⟨u, hu⟩ : ∃ z, E.length = z := ⟨_, rfl⟩
   rw [hu] at HTU d0
   have HTR := hide (turnL_len l1 E)
   have HNC := hide (namedL_len W n E hd)
   have HE20 := hide hE20
   have hbt : tb < wr.heap.size := by omega
   have jk : (k : Int) < (m : Int) := by omega
   have x0 := RB.out.at 0 rfl; have x1 := RB.out.at 1 rfl; have x2 := RB.out.at 2 rfl; have xz := RB.out.lt
   clear htc hkl c0 c1 her ht htm hE20 hu hca hcc
   go_wp2_with fail
   refine seqT_start (S := (fun W => (∀ b o, b < wr.heap.size → W.cell? ⟨b, o, none⟩ = wr.cell? ⟨b, o, none⟩) ∧ Ext wr W)) (.take 0 (.take 1 (.take 2 (.take 3 (.take 4 (.take 5 (.take 6 (.take 7 (.step 8 (.take 9 (.take 10 (.take 11 (.step 12 (.step 13 (.take 14 .done) .shut) .shut)))) (.step 12 (.step 8 (.take 9 (.take 10 (.take 11 (.step 13 (.take 14 .done) .shut)))) .shut) .shut)))))))))) (by kernel_rfl) (by kernel_rfl) (by kernel_rfl) (by decide) (fun _ _ d _ _ h => by cases d <;> exact h) (by first | with_reducible exact pr_start _ | exact pr_of (by (with_reducible (repeat' (first | exact z_r _ | assumption | refine z_d ?_ | refine z_n ?_ _ | refine z_a ?_ _ | refine z_s ?_ ?_ _ | refine z_t ?_ (by assumption)))); all_goals (simp <;> omega))) (fun hHeld => ?_)
   iterate 8 (apply SeqT.free; (· (simp only [z_0, z_1, z_2]; rfl)); (· first | exact Or.inr ⟨by rfl, rfl⟩ | (refine Or.inl ⟨by rfl, ?_⟩; intro w hSw; (try dsimp only at hSw); go_simp; try with_reducible rfl)); try simp only [Act.put, z_3, z_4, z_5])
   (apply SeqT.step; (· (simp only [z_0, z_1, z_2]; rfl)))
   (intro K hK; go_simp; refine (HTU.out _ (by (with_reducible (repeat' (first | exact z_r _ | assumption | refine z_d ?_ | refine z_n ?_ _ | refine z_a ?_ _ | refine z_s ?_ ?_ _ | refine z_t ?_ (by assumption)))); all_goals (simp <;> omega))).mono ?_; rintro e w5 ⟨ga, gc, v5, rfl, x5, og5, oc5⟩; rw [HTR.out, LN.out] at og5 ⊢; obtain ⟨ca5, cc5, rfl⟩ := oc5.slice; have OG := hide (og5.lower (base' := wr.heap.size) (show Ext wr _ from (by (with_reducible (repeat' (first | exact z_r _ | assumption | refine z_d ?_ | refine z_n ?_ _ | refine z_a ?_ _ | refine z_s ?_ ?_ _ | refine z_t ?_ (by assumption)))); all_goals (simp <;> omega))).size); have OC := hide (oc5.lower (base' := wr.heap.size) (show Ext wr _ from (by (with_reducible (repeat' (first | exact z_r _ | assumption | refine z_d ?_ | refine z_n ?_ _ | refine z_a ?_ _ | refine z_s ?_ ?_ _ | refine z_t ?_ (by assumption)))); all_goals (simp <;> omega))).size); (try replace DT := hide (DT.out.ext x5)); (try replace t0 := DT.out.at 0 rfl); (try replace t1 := DT.out.at 1 rfl); (try replace t2 := DT.out.at 2 rfl); (try replace tf0 := DT.out.frozen 0); (try replace tf1 := DT.out.frozen 1); (try replace tf2 := DT.out.frozen 2); (try replace tz := DT.out.lt); clear og5 oc5; go_wp2_with fail; refine hK.out _ _ (pr_of (by (with_reducible (repeat' (first | exact z_r _ | assumption | refine z_d ?_ | refine z_n ?_ _ | refine z_a ?_ _ | refine z_s ?_ ?_ _ | refine z_t ?_ (by assumption)))); all_goals (simp <;> omega))) (fun hHeld => ?_); clear hK K; (try simp only [Act.put, z_3, z_4, z_5]))
   iterate 3 (apply SeqT.free; (· (simp only [z_0, z_1, z_2]; rfl)); (· first | exact Or.inr ⟨by rfl, rfl⟩ | (refine Or.inl ⟨by rfl, ?_⟩; intro w hSw; (try dsimp only at hSw); go_simp; try with_reducible rfl)); try simp only [Act.put, z_3, z_4, z_5])
   (apply SeqT.last; (· (simp only [z_0, z_1, z_2]; rfl)))
   (intro K hK; go_simp; refine hK.out _ _ (pr_of (by (with_reducible (repeat' (first | exact z_r _ | assumption | refine z_d ?_ | refine z_n ?_ _ | refine z_a ?_ _ | refine z_s ?_ ?_ _ | refine z_t ?_ (by assumption)))); all_goals (simp <;> omega))) (fun hHeld => ?_); clear hK K; (try simp only [Act.put, z_3, z_4, z_5]); (first | refine SeqT.named ?_ (by assumption) | refine SeqT.namedD ?_ (by assumption)); intro wt dt hxt hzt hSt; have DT := hide dt; have zt3 := blk_ge DT (show wr.heap.size ≤ _ from (show Ext wr _ from (by (with_reducible (repeat' (first | exact z_r _ | assumption | refine z_d ?_ | refine z_n ?_ _ | refine z_a ?_ _ | refine z_s ?_ ?_ _ | refine z_t ?_ (by assumption)))); all_goals (simp <;> omega))).size); clear dt hzt; (try replace OG := hide (OG.out.ext hxt)); (try replace OC := hide (OC.out.ext hxt)); have t0 := DT.out.at 0 rfl; have t1 := DT.out.at 1 rfl; have t2 := DT.out.at 2 rfl; have tf0 := DT.out.frozen 0; have tf1 := DT.out.frozen 1; have tf2 := DT.out.frozen 2; have tz := DT.out.lt)
   (apply SeqT.last; (· (simp only [z_0, z_1, z_2]; rfl)))
   (intro K hK; go_simp; refine hK.out _ _ (pr_of (by (with_reducible (repeat' (first | exact z_r _ | assumption | refine z_d ?_ | refine z_n ?_ _ | refine z_a ?_ _ | refine z_s ?_ ?_ _ | refine z_t ?_ (by assumption)))); all_goals (simp <;> omega))) (fun hHeld => ?_); clear hK K; (try simp only [Act.put, z_3, z_4, z_5]); refine SeqT.namedExt hHeld.2 ?_; intro wq hwq xq; have XQ := hide xq; have DQ := hide (show Blk wq _ 26 #[.int .i64 W, .int .i64 H, .slice ga n gc] from hwq ▸ (((DT.out.set_ 0 (.int .i64 W)).set_ 1 (.int .i64 H)).set_ 2 (.slice ga n gc))); have GQ := hide (show Own u16G wq wr.heap.size 83 (.slice ga n gc) (turnL l1 E) from hwq ▸ Own.touch OG.out (touch3 _ _ _ _ _) (fun q hq e => Blk.ne_own DT.out OG.out (by decide) (by rw [← e]; exact hq))); have CQ := hide (show Own cellE wq wr.heap.size 69 (.slice ca5 (namedL W n E hd).length cc5) (namedL W n E hd) from hwq ▸ Own.touch OC.out (touch3 _ _ _ _ _) (fun q hq e => Blk.ne_own DT.out OC.out (by decide) (by rw [← e]; exact hq))); clear hwq hHeld xq t0 t1 t2 tf0 tf1 tf2 tz DT OG OC; have g0 := DQ.out.at 0 rfl; have g1 := DQ.out.at 1 rfl; have g2 := DQ.out.at 2 rfl; have gz := DQ.out.lt)
   iterate 1 (apply SeqT.free; (· (simp only [z_0, z_1, z_2]; rfl)); (· first | exact Or.inr ⟨by rfl, rfl⟩ | (refine Or.inl ⟨by rfl, ?_⟩; intro w hSw; (try dsimp only at hSw); go_simp; try with_reducible rfl)); try simp only [Act.put, z_3, z_4, z_5])
   refine SeqT.fin ?_
   rotate_left
   (apply SeqT.last; (· (simp only [z_0, z_1, z_2]; rfl)))
   (intro K hK; go_simp; refine hK.out _ _ (pr_of (by (with_reducible (repeat' (first | exact z_r _ | assumption | refine z_d ?_ | refine z_n ?_ _ | refine z_a ?_ _ | refine z_s ?_ ?_ _ | refine z_t ?_ (by assumption)))); all_goals (simp <;> omega))) (fun hHeld => ?_); clear hK K; (try simp only [Act.put, z_3, z_4, z_5]); (first | refine SeqT.named ?_ (by assumption) | refine SeqT.namedD ?_ (by assumption)); intro wt dt hxt hzt hSt; have DT := hide dt; have zt3 := blk_ge DT (show wr.heap.size ≤ _ from (show Ext wr _ from (by (with_reducible (repeat' (first | exact z_r _ | assumption | refine z_d ?_ | refine z_n ?_ _ | refine z_a ?_ _ | refine z_s ?_ ?_ _ | refine z_t ?_ (by assumption)))); all_goals (simp <;> omega))).size); clear dt hzt; (try replace OG := hide (OG.out.ext hxt)); (try replace OC := hide (OC.out.ext hxt)); have t0 := DT.out.at 0 rfl; have t1 := DT.out.at 1 rfl; have t2 := DT.out.at 2 rfl; have tf0 := DT.out.frozen 0; have tf1 := DT.out.frozen 1; have tf2 := DT.out.frozen 2; have tz := DT.out.lt)
   (apply SeqT.last; (· (simp only [z_0, z_1, z_2]; rfl)))
   (intro K hK; go_simp; refine (HTU.out _ (by (with_reducible (repeat' (first | exact z_r _ | assumption | refine z_d ?_ | refine z_n ?_ _ | refine z_a ?_ _ | refine z_s ?_ ?_ _ | refine z_t ?_ (by assumption)))); all_goals (simp <;> omega))).mono ?_; rintro e w5 ⟨ga, gc, v5, rfl, x5, og5, oc5⟩; rw [HTR.out, LN.out] at og5 ⊢; obtain ⟨ca5, cc5, rfl⟩ := oc5.slice; have OG := hide (og5.lower (base' := wr.heap.size) (show Ext wr _ from (by (with_reducible (repeat' (first | exact z_r _ | assumption | refine z_d ?_ | refine z_n ?_ _ | refine z_a ?_ _ | refine z_s ?_ ?_ _ | refine z_t ?_ (by assumption)))); all_goals (simp <;> omega))).size); have OC := hide (oc5.lower (base' := wr.heap.size) (show Ext wr _ from (by (with_reducible (repeat' (first | exact z_r _ | assumption | refine z_d ?_ | refine z_n ?_ _ | refine z_a ?_ _ | refine z_s ?_ ?_ _ | refine z_t ?_ (by assumption)))); all_goals (simp <;> omega))).size); (try replace DT := hide (DT.out.ext x5)); (try replace t0 := DT.out.at 0 rfl); (try replace t1 := DT.out.at 1 rfl); (try replace t2 := DT.out.at 2 rfl); (try replace tf0 := DT.out.frozen 0); (try replace tf1 := DT.out.frozen 1); (try replace tf2 := DT.out.frozen 2); (try replace tz := DT.out.lt); clear og5 oc5; go_wp2_with fail; refine hK.out _ _ (pr_of (by (with_reducible (repeat' (first | exact z_r _ | assumption | refine z_d ?_ | refine z_n ?_ _ | refine z_a ?_ _ | refine z_s ?_ ?_ _ | refine z_t ?_ (by assumption)))); all_goals (simp <;> omega))) (fun hHeld => ?_); clear hK K; (try simp only [Act.put, z_3, z_4, z_5]))
   iterate 3 (apply SeqT.free; (· (simp only [z_0, z_1, z_2]; rfl)); (· first | exact Or.inr ⟨by rfl, rfl⟩ | (refine Or.inl ⟨by rfl, ?_⟩; intro w hSw; (try dsimp only at hSw); go_simp; try with_reducible rfl)); try simp only [Act.put, z_3, z_4, z_5])
   (apply SeqT.last; (· (simp only [z_0, z_1, z_2]; rfl)))
   (intro K hK; go_simp; refine hK.out _ _ (pr_of (by (with_reducible (repeat' (first | exact z_r _ | assumption | refine z_d ?_ | refine z_n ?_ _ | refine z_a ?_ _ | refine z_s ?_ ?_ _ | refine z_t ?_ (by assumption)))); all_goals (simp <;> omega))) (fun hHeld => ?_); clear hK K; (try simp only [Act.put, z_3, z_4, z_5]); refine SeqT.namedExt hHeld.2 ?_; intro wq hwq xq; have XQ := hide xq; have DQ := hide (show Blk wq _ 26 #[.int .i64 W, .int .i64 H, .slice ga n gc] from hwq ▸ (((DT.out.set_ 0 (.int .i64 W)).set_ 1 (.int .i64 H)).set_ 2 (.slice ga n gc))); have GQ := hide (show Own u16G wq wr.heap.size 83 (.slice ga n gc) (turnL l1 E) from hwq ▸ Own.touch OG.out (touch3 _ _ _ _ _) (fun q hq e => Blk.ne_own DT.out OG.out (by decide) (by rw [← e]; exact hq))); have CQ := hide (show Own cellE wq wr.heap.size 69 (.slice ca5 (namedL W n E hd).length cc5) (namedL W n E hd) from hwq ▸ Own.touch OC.out (touch3 _ _ _ _ _) (fun q hq e => Blk.ne_own DT.out OC.out (by decide) (by rw [← e]; exact hq))); clear hwq hHeld xq t0 t1 t2 tf0 tf1 tf2 tz DT OG OC; have g0 := DQ.out.at 0 rfl; have g1 := DQ.out.at 1 rfl; have g2 := DQ.out.at 2 rfl; have gz := DQ.out.lt)
   iterate 1 (apply SeqT.free; (· (simp only [z_0, z_1, z_2]; rfl)); (· first | exact Or.inr ⟨by rfl, rfl⟩ | (refine Or.inl ⟨by rfl, ?_⟩; intro w hSw; (try dsimp only at hSw); go_simp; try with_reducible rfl)); try simp only [Act.put, z_3, z_4, z_5])
   refine SeqT.fin ?_
   all_goals
    have zq := XQ.out.size
    have WQ := hide (WA.out.ext XQ.out)
    have QQ := hide (RefS.ext QA.out XQ.out)
    have G2 := hide (show Good W H s (turnL l1 E) from ⟨by rw [turnL_len]; exact G1.out.ok, G1.out.right, turnL_u16 G1.out.u16 E⟩)
    have LN2 := hide (show (turnL l1 E).length = n by rw [HTR.out, LN.out])
    have HUP : Hid (Calls Tryz.prog 22 #[.pointer (some ⟨p.b, 0, none⟩), .agg #[.int .i64 W, .int .i64 H, .slice ga n gc], .slice ca5 (namedL W n E hd).length cc5] wq (Upd wq p1 R1 W H s l1 W H (turnL l1 E) (namedL W n E hd))) := hide (by
     have h := upd_any WQ.out gc (row16_ownG GQ.out) G2.out.u16 cc5 (Reads.rowC CQ.out.reads).2 (by have := HNC.out; have := HE20.out; omega) G2.out.ok (HGS.out _ G2.out (by rw [LN2.out]))
     rw [PB.out, LN2.out] at h
     exact h)
    have HIN := hide (named_in G1.out.ok E hd)
    rw [LN.out] at HIN
    obtain ⟨cs, hcs⟩ : ∃ z, namedL W n E hd = z := ⟨_, rfl⟩
    have HCL := hide (show cs.length ≤ 20 by rw [← hcs]; have := HNC.out; have := HE20.out; omega)
    rw [hcs] at HUP HIN CQ ⊢
    obtain ⟨lt, hlt2⟩ : ∃ z, turnL l1 E = z := ⟨_, rfl⟩
    rw [hlt2] at HUP G2 LN2 GQ HTR
    clear hcs hlt2 HNC HE20 HTU
    (try go_wp2_with fail)
    refine (HUP.out).mono ?_
    clear HUP g0 g1 g2 gz
    rintro e w6 hu
    rcases hu with ⟨hne, rfl, x6⟩ | ⟨he0, v6, p6, R6, rfl, o6, hw6, hb6, hF6, t6, hR6⟩
    ·have WA6 := hide (WQ.out.ext x6)
     have QA6 := hide (RefS.ext QQ.out x6)
     have D6 := hide (DQ.out.ext x6)
     have X6 := hide ((XR.out.trans XQ.out).trans x6)
     have HWR : Hid (Calls Tryz.prog 26 #[.pointer (some ⟨q1.b, 0, none⟩), .agg #[.int .i64 W, .int .i64 H, .slice ga n gc], .slice ca5 cs.length cc5] w6 fun e w' => e = .returned (.int .i64 (updE W H l1 W H lt cs)) ∧ Ext w6 w') := hide (by
      have h := wrong_same QA6.out gc ((row16_ownG GQ.out).ext x6) cc5 ((Reads.rowC CQ.out.reads).2.ext x6) (by have := HCL.out; omega) G2.out.ok
      rw [LN2.out] at h
      exact h)
     generalize updE W H l1 W H lt cs = er at *
     have hnb : (er != 0) = true := by simpa using hne
     have z6 := x6.size
     clear x6 hne d0 d1
     have g0 := D6.out.at 0 rfl; have g1 := D6.out.at 1 rfl; have g2 := D6.out.at 2 rfl; have gz := D6.out.lt
     go_wp2_with fail
     refine (HWR.out).mono ?_
     rintro e w7 ⟨rfl, x7⟩
     have WA7 := hide (WA6.out.ext x7)
     have QA7 := hide (RefS.ext QA6.out x7)
     have z7 := x7.size
     have HIS : Hid (Calls Tryz.prog 18 #[.pointer (some ⟨p.b, 0, none⟩), .pointer (some ⟨q1.b, 0, none⟩)] w7 fun e w' => e = .returned (.bool true) ∧ Ext w7 w') := hide (by
      have h := is14_yes WA7.out QA7.out (HGS.out _ G1.out LN.out)
      rw [PB.out] at h
      exact h)
     clear HWR g0 g1 g2 gz
     go_wp2_with fail
     refine (HIS.out).mono ?_
     rintro e w8 ⟨rfl, x8⟩
     have z8 := x8.size
     go_wp2_with fail
     go_roundw
     case rel => exact ⟨k + 1, l1, p1, R1, q1, R2, by omega, by go_num, rfl, ⟨G1.out, LN.out⟩, WA7.out.ext x8, RefS.ext QA7.out x8, ⟨PB.out, PF.out⟩, RR.out, (X6.out.trans x7).trans x8, by omega⟩
     case measure => simp [intOf]; omega
    ·have HE0 := hide he0
     have QA6 := hide (RefS.touch QQ.out t6 (fun k hk h => RR.out k hk ((PF.out _).1 h)))
     have D6 := hide (DQ.out.touch t6 (fun h => by have := HF.out _ ((PF.out _).1 h); omega))
     have O6 := hide (GQ.out.touch t6 (fun q hq h => by have := HF.out _ ((PF.out _).1 h); have := (own_lt GQ.out hq).1; omega))
     have C6 := hide (CQ.out.touch t6 (fun q hq h => by have := HF.out _ ((PF.out _).1 h); have := (own_lt CQ.out hq).1; omega))
     have X6 := hide ((XR.out.trans XQ.out).of_below (t6.to_below (XR.out.trans XQ.out).size (fun q h => by have := HF.out _ ((PF.out _).1 h); omega)) (Nat.le_refl _))
     have W6 := hide hw6
     have PB6 := hide (hb6.trans PB.out)
     have PF6 := hide (fun k => (hF6 k).trans (PF.out k))
     have z6 := t6.size
     rw [HCN.out] at o6
     obtain ⟨ia, ic, rfl⟩ := o6.slice
     have OI := hide o6
     have HWR : Hid (Calls Tryz.prog 26 #[.pointer (some ⟨q1.b, 0, none⟩), .agg #[.int .i64 W, .int .i64 H, .slice ga n gc], .slice ca5 cs.length cc5] w6 fun e w' => e = .returned (.int .i64 0) ∧ Ext w6 w') := hide (by
      have h := wrong_same QA6.out gc (row16_ownG O6.out) cc5 (Reads.rowC C6.out.reads).2 (by have := HCL.out; omega) G2.out.ok
      rw [LN2.out, HE0.out] at h
      exact h)
     clear he0 o6 hw6 hb6 hF6 t6 hR6 d0 d1
     have g0 := D6.out.at 0 rfl; have g1 := D6.out.at 1 rfl; have g2 := D6.out.at 2 rfl; have gz := D6.out.lt
     go_wp2_with fail
     refine (HWR.out).mono ?_
     rintro e w7 ⟨rfl, x7⟩
     have W7 := hide (W6.out.ext x7)
     have QA7 := hide (RefS.ext QA6.out x7)
     have D7 := hide (D6.out.ext x7)
     have O7 := hide (O6.out.ext x7)
     have C7 := hide (C6.out.ext x7)
     have OI7 := hide (OI.out.ext x7)
     have X7 := hide (X6.out.trans x7)
     have z7 := x7.size
     have HNR2 := r14New_any (w := w7) gc G2.out (row16_ownG O7.out) (HGS.out _ G2.out LN2.out)
     rw [LN2.out] at HNR2
     have HNR2 := hide HNR2
     have hga := hide (fun g o (e : ga = some ⟨g, o, none⟩) => (show wr.heap.size ≤ g from by subst e; exact (own_lt O7.out (k := g) rfl).1))
     clear HWR g0 g1 g2 gz W6 QA6 D6 O6 C6 OI X6 x7
     have g0 := D7.out.at 0 rfl; have g1 := D7.out.at 1 rfl; have g2 := D7.out.at 2 rfl; have gz := D7.out.lt
     go_wp2_with fail
     refine (HNR2.out).mono ?_
     rintro e w8 ⟨q2, rfl, x8, hq2, _, _, _⟩
     have QB8 := hide hq2
     have W8 := hide (W7.out.ext x8)
     have QA8 := hide (RefS.ext QA7.out x8)
     have C8 := hide (C7.out.ext x8)
     have OI8 := hide (OI7.out.ext x8)
     have X8 := hide (X7.out.trans x8)
     have z8 := x8.size
     have RB2 := hide (show ∀ k, ((w7.heap.size ≤ k ∧ k < w8.heap.size) ∨ ∃ o, ga = some ⟨k, o, none⟩) → ¬ p.F k from fun k hk hf => by
      have h1 := HF.out k hf
      rcases hk with h2 | ⟨o, h2⟩
      ·omega
      ·have := hga.out k o h2; omega)
     have HAN : Hid (Calls Tryz.prog 28 #[.pointer (some ⟨q1.b, 0, none⟩), .pointer (some ⟨q2.b, 0, none⟩), .slice ca5 cs.length cc5] w8 fun e w' => ∃ v, e = .returned v ∧ Ext w8 w' ∧ Own intE w' w8.heap.size 3 v (toldU W H s l1 lt cs N)) := hide (by
      have h1 : RefS w8 q1 R2 W H s l1 (cnt W H s).toNat := QA8.out
      have h2 : RefS w8 q2 _ W H s lt (cnt W H s).toNat := QB8.out
      rw [HCN.out] at h1 h2
      exact anew_any h1 h2 cc5 (Reads.rowC C8.out.reads).2 (by have := HCL.out; omega) HIN.out (HGS.out _ G1.out LN.out) (HGS.out _ G2.out LN2.out))
     have HTL := hide (toldU_lenJ W H s l1 lt cs N)
     clear hq2 x8 HNR2 g0 g1 g2 gz W7 QA7 D7 O7 C7 OI7 X7 hga
     go_wp2_with fail
     refine (HAN.out).mono ?_
     rintro e w9 ⟨va, rfl, x9, o9⟩
     obtain ⟨ja, jc, rfl⟩ := o9.slice
     have OJ := hide o9
     have OI9 := hide (OI8.out.ext x9)
     have W9 := hide (W8.out.ext x9)
     have QB9 := hide (RefS.ext QB8.out x9)
     have X9 := hide (X8.out.trans x9)
     have z9 := x9.size
     have HIT := hide (ints14_any _ _ _ _ w9 (by have := HTL.out; omega) (by have := HTL.out; omega) OI9.out.reads OJ.out.reads)
     rw [show (toldU W H s l1 lt cs N == toldU W H s l1 lt cs N) = true by simp] at HIT
     generalize (toldU W H s l1 lt cs N).length = tl at *
     clear HAN x9 o9 W8 QB8 QA8 C8 OI8 X8
     go_wp2_with fail
     refine (HIT.out).mono ?_
     rintro e w10 ⟨rfl, x10⟩
     have W10 := hide (W9.out.ext x10)
     have QB10 := hide (RefS.ext QB9.out x10)
     have z10 := x10.size
     have HIS : Hid (Calls Tryz.prog 18 #[.pointer (some ⟨p.b, 0, none⟩), .pointer (some ⟨q2.b, 0, none⟩)] w10 fun e w' => e = .returned (.bool true) ∧ Ext w10 w') := hide (by
      have h := is14_yes W10.out QB10.out (HGS.out _ G2.out LN2.out)
      rw [PB6.out] at h
      exact h)
     clear HIT
     go_wp2_with fail
     refine (HIS.out).mono ?_
     rintro e w11 ⟨rfl, x11⟩
     have z11 := x11.size
     go_wp2_with fail
     go_roundw
     case rel => exact ⟨k + 1, lt, p6, R6, q2, _, by omega, by go_num, rfl, ⟨G2.out, LN2.out⟩, W10.out.ext x11, RefS.ext QB10.out x11, ⟨PB6.out, PF6.out⟩, RB2.out, (X9.out.trans x10).trans x11, by omega⟩
     case measure => simp [intOf]; omega
  ·obtain rfl : m = k := by omega
   go_wp2_with fail
   refine (awake14_any _).mono ?_
   rintro e w3 ⟨rfl, hb3⟩
   go_wp2_with fail
   go_ret
   exact ⟨rfl, XR.out.trans hb3⟩
end Go.Proofs.YtkioohhjjdlhiaaGreat
