/- Part of a proof: HierJ. -/
import Derived.Test.YtaellcgglldjaaaGreatHierBudgetQ29
import Derived.Test.YtaellcgglldjaaaGreatHierBudgetQ31
set_option linter.all false
set_option linter.unusedVariables false
set_option linter.unusedSimpArgs false
namespace Go.Proofs.YtaellcgglldjaaaGreat
open Go.RowKit
theorem fPath_far {w : World} {W H : Int} {a : Option Addr} {l : List Int} {bx byy bw bh x y : Int} (c : Nat) (tx ty : Int) (L : LandP W H l bx byy bw bh) (he : lookE W H l.length bx byy bw bh x y = 0) (hr : Row16 w a l) (hu : U16s l) (ht : hasB bx byy bw bh tx ty = true) (hd : farD L (x, y) (idxN W (tx, ty)) < infI) :
  Calls Tryz.prog 28 #[.agg #[.int .i64 W, .int .i64 H, .slice a l.length c], .agg #[.int .i64 bx, .int .i64 byy, .int .i64 bw, .int .i64 bh], .agg #[.int .i64 x, .int .i64 y], .agg #[.int .i64 tx, .int .i64 ty]] w fun e w' =>
   ∃ v z p, e = .returned (.tuple #[v, .int .u64 z, .int .i64 0]) ∧ Ext w w' ∧ BackP (mapNet L) (farD L (x, y)) (idxN W (tx, ty)) p ∧ Own cellE w' w.heap.size 28 v (p.map (cellV W)).reverse := by
 refine (fPath_at c tx ty he hr hu ht).mono ?_
 rintro e w' ⟨far, F, _, hx, h⟩
 have hfd : far = farD L (x, y) := funext fun v => farD_one L F v
 subst hfd
 rcases h with ⟨h, _⟩ | ⟨_, v, p, he', hb, ho⟩
 ·omega
 ·exact ⟨v, _, p, he', hx, hb, ho⟩
set_option maxRecDepth 100000 in
set_option maxHeartbeats 1000000 in
theorem hway_in {w : World} {sb lb : Nat} {p : Spot} {R : Nat → Prop} {W H s : Int} {l : List Int} {fa : Option Addr} {fc : Nat} {ga : Option Addr} {gc : Nat} {f t : Cell} (h : HLand w lb p R W H s l fa fc ga gc f t) (hsl : w.cell? ⟨sb, 0, none⟩ = some (.pointer (some ⟨lb, 0, none⟩))) (hsb : sb < w.heap.size) (a c : Cell) (x : Int) (ha : inB W H a.1 a.2 = true) (hc : inB W H c.1 c.2 = true) (hne : ofN W s c.1 c.2 = ofN W s a.1 a.2) (L : boxL W H s (ofN W s a.1 a.2) l) (hd : farD L a (idxN W c) < infI) :
  Calls Tryz.prog 150 #[.pointer (some ⟨sb, 0, none⟩), legV a c x] w fun e w' => ∃ v q, e = .returned v ∧ Ext w w' ∧ BackP (mapNet L) (farD L a) (idxN W c) q ∧ Own cellE w' w.heap.size 28 v (q.map (cellV W)).reverse := by
 have g := h.good
 have hr := g.right
 have hid := ofN_bd g.right ha
 obtain ⟨ax, ay⟩ := a
 obtain ⟨cx, cy⟩ := c
 simp only at ha hc hne L hd hid
 have HLK : lookE W H l.length (boxX W s (ofN W s ax ay)) (boxY W s (ofN W s ax ay)) (boxW W s (ofN W s ax ay)) (boxH W H s (ofN W s ax ay)) ax ay = 0 := by
  refine lookE_ok.2 ⟨(g.box hid).may, (g.box hid).len, (g.box hid).fits, ?_⟩
  rw [← inId_has g.right hid (ax, ay)]
  unfold inId
  rw [ha]
  simp
 have hht : hasB (boxX W s (ofN W s ax ay)) (boxY W s (ofN W s ax ay)) (boxW W s (ofN W s ax ay)) (boxH W H s (ofN W s ax ay)) cx cy = true := by
  rw [← inId_has g.right hid (cx, cy)]
  unfold inId
  rw [hc]
  simp [hne]
 have HOA := hide (fun (w' : World) => of_yes W H s ax ay w' hr ha)
 have HOC := hide (fun (w' : World) => of_yes W H s cx cy w' hr hc)
 have HBX : Hid (∀ (w' : World), Calls Tryz.prog 27 #[.agg #[.int .i64 W, .int .i64 H, .int .i64 s], .int .i64 (ofN W s ax ay)] w' fun e w'' => e = .returned (.tuple #[.agg #[.int .i64 (boxX W s (ofN W s ax ay)), .int .i64 (boxY W s (ofN W s ax ay)), .int .i64 (boxW W s (ofN W s ax ay)), .int .i64 (boxH W H s (ofN W s ax ay))], .int .i64 0]) ∧ Ext w' w'') := hide (fun w' => Box_yes W H s (ofN W s ax ay) w' hr hid.1 hid.2)
 have HPA := hide (fun (w' : World) (x : Ext w w') => fPath_far (w := w') fc cx cy L HLK (h.row.ext x) g.u16 hht hd)
 have B := hide h.blk
 unfold landCells at B
 rw [hne] at HOC
 obtain ⟨i1, hi1⟩ : ∃ z, ofN W s ax ay = z := ⟨_, rfl⟩
 have HSL := hide (fun (w' : World) (x : Ext w w') => (show w'.cell? ⟨sb, 0, none⟩ = some (.pointer (some ⟨lb, 0, none⟩)) ∧ sb < w'.heap.size from ⟨(x.cell (p := ⟨sb, 0, none⟩) hsb).trans hsl, Nat.lt_of_lt_of_le hsb x.size⟩))
 obtain ⟨n, hn⟩ : ∃ z, l.length = z := ⟨_, rfl⟩
 obtain ⟨m, hm⟩ : ∃ z, (gatesA W H s l).length = z := ⟨_, rfl⟩
 rw [hn, hm] at B
 rw [hn] at HPA
 have HQ := hide hi1
 generalize hD : farD L (ax, ay) = D at *
 generalize mapNet L = NL at *
 rw [hi1] at HOA HOC HBX HPA
 clear h g hr hid HLK hht ha hc hne hd hD L hsl hsb hn hm hi1
 generalize boxW W s i1 = bw at *
 generalize boxH W H s i1 = bh at *
 generalize boxX W s i1 = bx at *
 generalize boxY W s i1 = byy at *
 unfold legV
 simp only
 have d1 : (i1 == i1) = true := by simp
 go_enter Tryz.func150, Tryz.ntmps150
 go_upto_region 1 with (fail)
 obtain ⟨w1, hw1⟩ : ∃ z, z = w.alloc (.cells #[.int .i64 ax, .int .i64 ay, .int .i64 cx, .int .i64 cy, .int .u64 x] 56) := ⟨_, rfl⟩
 have X1 := hide (show Ext w w1 by rw [hw1]; exact (Ext.refl _).alloc _)
 have L1 := hide (show Blk w1 w.heap.size 56 #[.int .i64 ax, .int .i64 ay, .int .i64 cx, .int .i64 cy, .int .u64 x] by rw [hw1]; exact Blk.new_ rfl)
 rw [← hw1]
 have B1 := hide (B.out.ext X1.out)
 clear hw1
 obtain ⟨s0, sz⟩ := HSL.out w1 X1.out
 have c0 := L1.out.at 0 rfl; have c1 := L1.out.at 1 rfl; have c2 := L1.out.at 2 rfl; have c3 := L1.out.at 3 rfl; have c4 := L1.out.at 4 rfl; have cz := L1.out.lt
 have b0 := B1.out.at 0 rfl; have b1 := B1.out.at 1 rfl; have b2 := B1.out.at 2 rfl; have b3 := B1.out.at 3 rfl; have b4 := B1.out.at 4 rfl; have b5 := B1.out.at 5 rfl; have b6 := B1.out.at 6 rfl; have b7 := B1.out.at 7 rfl; have b8 := B1.out.at 8 rfl; have b9 := B1.out.at 9 rfl; have b10 := B1.out.at 10 rfl; have b11 := B1.out.at 11 rfl; have bz := B1.out.lt
 refine seqH_start (S := (fun W => (∀ b o, b < w1.heap.size → W.cell? ⟨b, o, none⟩ = w1.cell? ⟨b, o, none⟩) ∧ Ext w1 W)) [(0, true), (1, true), (2, true), (3, true), (4, true), (5, true), (6, true), (7, true), (8, true), (9, false), (10, true), (11, true), (12, true), (13, true), (14, true)] (by kernel_rfl) (by kernel_rfl) (by kernel_rfl) (by decide) (fun _ _ d _ _ h => by cases d <;> exact h) (by first | with_reducible exact pr_start _ | exact pr_of (by (with_reducible (repeat' (first | exact z_r _ | assumption | refine z_d ?_ | refine z_n ?_ _ | refine z_a ?_ _ | refine z_s ?_ ?_ _ | refine z_t ?_ (by assumption)))); all_goals (simp <;> omega))) (fun hHeld => ?_)
 iterate 9 (apply SeqH.free; (· (simp only [z_0, z_1, z_2]; rfl)); (· first | exact Or.inr ⟨by rfl, rfl⟩ | (refine Or.inl ⟨by rfl, ?_⟩; intro w hSw; (try dsimp only at hSw); go_simp; try with_reducible rfl)); try simp only [Act.put, z_3, z_4, z_5])
 (apply SeqH.step; (· (simp only [z_0, z_1, z_2]; rfl)); intro K hK; go_simp; refine (HOA.out _).mono ?_; rintro e w3 ⟨rfl, x3⟩; go_wp2_with fail; refine hK.out _ _ (pr_of (by (with_reducible (repeat' (first | exact z_r _ | assumption | refine z_d ?_ | refine z_n ?_ _ | refine z_a ?_ _ | refine z_s ?_ ?_ _ | refine z_t ?_ (by assumption)))); all_goals (simp <;> omega))) (fun hHeld => ?_); clear hK K; try simp only [Act.put, z_3, z_4, z_5])
 iterate 5 (apply SeqH.free; (· (simp only [z_0, z_1, z_2]; rfl)); (· first | exact Or.inr ⟨by rfl, rfl⟩ | (refine Or.inl ⟨by rfl, ?_⟩; intro w hSw; (try dsimp only at hSw); go_simp; try with_reducible rfl)); try simp only [Act.put, z_3, z_4, z_5])
 refine SeqH.done ?_
 have XE := hide hHeld.2
 clear hHeld x3 s0 sz c0 c1 c2 c3 c4 cz b0 b1 b2 b3 b4 b5 b6 b7 b8 b9 b10 b11 bz
 have X3 := hide (X1.out.trans XE.out)
 have L3 := hide (L1.out.ext XE.out)
 have B3 := hide (B.out.ext X3.out)
 clear XE
 obtain ⟨s0, sz⟩ := HSL.out w3 X3.out
 have c0 := L3.out.at 0 rfl; have c1 := L3.out.at 1 rfl; have c2 := L3.out.at 2 rfl; have c3 := L3.out.at 3 rfl; have c4 := L3.out.at 4 rfl; have cz := L3.out.lt
 have b0 := B3.out.at 0 rfl; have b1 := B3.out.at 1 rfl; have b2 := B3.out.at 2 rfl; have b3 := B3.out.at 3 rfl; have b4 := B3.out.at 4 rfl; have b5 := B3.out.at 5 rfl; have b6 := B3.out.at 6 rfl; have b7 := B3.out.at 7 rfl; have b8 := B3.out.at 8 rfl; have b9 := B3.out.at 9 rfl; have b10 := B3.out.at 10 rfl; have b11 := B3.out.at 11 rfl; have bz := B3.out.lt
 go_upto_region 2 with (fail)
 refine seqH_start (S := (fun W => (∀ b o, b < w3.heap.size → W.cell? ⟨b, o, none⟩ = w3.cell? ⟨b, o, none⟩) ∧ Ext w3 W)) [(0, true), (1, true), (2, true), (3, true), (4, true), (5, true), (6, true), (7, true), (8, true), (9, false), (10, true), (11, true), (12, true), (13, true), (14, true)] (by kernel_rfl) (by kernel_rfl) (by kernel_rfl) (by decide) (fun _ _ d _ _ h => by cases d <;> exact h) (by first | with_reducible exact pr_start _ | exact pr_of (by (with_reducible (repeat' (first | exact z_r _ | assumption | refine z_d ?_ | refine z_n ?_ _ | refine z_a ?_ _ | refine z_s ?_ ?_ _ | refine z_t ?_ (by assumption)))); all_goals (simp <;> omega))) (fun hHeld => ?_)
 iterate 9 (apply SeqH.free; (· (simp only [z_0, z_1, z_2]; rfl)); (· first | exact Or.inr ⟨by rfl, rfl⟩ | (refine Or.inl ⟨by rfl, ?_⟩; intro w hSw; (try dsimp only at hSw); go_simp; try with_reducible rfl)); try simp only [Act.put, z_3, z_4, z_5])
 (apply SeqH.step; (· (simp only [z_0, z_1, z_2]; rfl)); intro K hK; go_simp; refine (HOC.out _).mono ?_; rintro e w5 ⟨rfl, x5⟩; go_wp2_with fail; refine hK.out _ _ (pr_of (by (with_reducible (repeat' (first | exact z_r _ | assumption | refine z_d ?_ | refine z_n ?_ _ | refine z_a ?_ _ | refine z_s ?_ ?_ _ | refine z_t ?_ (by assumption)))); all_goals (simp <;> omega))) (fun hHeld => ?_); clear hK K; try simp only [Act.put, z_3, z_4, z_5])
 iterate 5 (apply SeqH.free; (· (simp only [z_0, z_1, z_2]; rfl)); (· first | exact Or.inr ⟨by rfl, rfl⟩ | (refine Or.inl ⟨by rfl, ?_⟩; intro w hSw; (try dsimp only at hSw); go_simp; try with_reducible rfl)); try simp only [Act.put, z_3, z_4, z_5])
 refine SeqH.done ?_
 have XE := hide hHeld.2
 clear hHeld x5 s0 sz c0 c1 c2 c3 c4 cz b0 b1 b2 b3 b4 b5 b6 b7 b8 b9 b10 b11 bz
 have X5 := hide (X3.out.trans XE.out)
 have L5 := hide (L3.out.ext XE.out)
 have B5 := hide (B.out.ext X5.out)
 have z5 := X5.out.size
 clear XE
 obtain ⟨s0, sz⟩ := HSL.out w5 X5.out
 have c0 := L5.out.at 0 rfl; have c1 := L5.out.at 1 rfl; have c2 := L5.out.at 2 rfl; have c3 := L5.out.at 3 rfl; have c4 := L5.out.at 4 rfl; have cz := L5.out.lt
 have b0 := B5.out.at 0 rfl; have b1 := B5.out.at 1 rfl; have b2 := B5.out.at 2 rfl; have b3 := B5.out.at 3 rfl; have b4 := B5.out.at 4 rfl; have b5 := B5.out.at 5 rfl; have b6 := B5.out.at 6 rfl; have b7 := B5.out.at 7 rfl; have b8 := B5.out.at 8 rfl; have b9 := B5.out.at 9 rfl; have b10 := B5.out.at 10 rfl; have b11 := B5.out.at 11 rfl; have bz := B5.out.lt
 go_upto_region 5 with (fail)
 go_upto_region 6 with (go_at_call 27; refine (HBX.out _).mono ?_; rintro e w6 ⟨rfl, x6⟩; have X6 := hide (X5.out.trans x6); have L6 := hide (L5.out.ext x6); clear x6 s0 sz c0 c1 c2 c3 c4 cz b0 b1 b2 b3 b4 b5 b6 b7 b8 b9 b10 b11 bz)
 obtain ⟨w7, hw7⟩ : ∃ z, z = w6.alloc (.cells #[.int .i64 bx, .int .i64 byy, .int .i64 bw, .int .i64 bh] 71) := ⟨_, rfl⟩
 have x7 : Ext w6 w7 := by rw [hw7]; exact (Ext.refl _).alloc _
 have K7 := hide (show Blk w7 w6.heap.size 71 #[.int .i64 bx, .int .i64 byy, .int .i64 bw, .int .i64 bh] by rw [hw7]; exact Blk.new_ rfl)
 have X7 := hide (X6.out.trans x7)
 have L7 := hide (L6.out.ext x7)
 have B7 := hide (B.out.ext X7.out)
 rw [← hw7]
 clear hw7 x7
 obtain ⟨s0, sz⟩ := HSL.out w7 X7.out
 have c0 := L7.out.at 0 rfl; have c1 := L7.out.at 1 rfl; have c2 := L7.out.at 2 rfl; have c3 := L7.out.at 3 rfl; have c4 := L7.out.at 4 rfl; have cz := L7.out.lt
 have b0 := B7.out.at 0 rfl; have b1 := B7.out.at 1 rfl; have b2 := B7.out.at 2 rfl; have b3 := B7.out.at 3 rfl; have b4 := B7.out.at 4 rfl; have b5 := B7.out.at 5 rfl; have b6 := B7.out.at 6 rfl; have b7 := B7.out.at 7 rfl; have b8 := B7.out.at 8 rfl; have b9 := B7.out.at 9 rfl; have b10 := B7.out.at 10 rfl; have b11 := B7.out.at 11 rfl; have bz := B7.out.lt
 have k0 := K7.out.at 0 rfl; have k1 := K7.out.at 1 rfl; have k2 := K7.out.at 2 rfl; have k3 := K7.out.at 3 rfl; have kz := K7.out.lt
 refine seqH_start (S := (fun W => (∀ b o, b < w7.heap.size → W.cell? ⟨b, o, none⟩ = w7.cell? ⟨b, o, none⟩) ∧ Ext w7 W)) [(0, true), (1, true), (2, true), (3, true), (4, true), (5, true), (6, true), (7, true), (8, true), (9, true), (10, true), (11, true), (12, false), (13, true), (14, true), (15, true), (16, true), (17, true), (18, true), (19, true)] (by kernel_rfl) (by kernel_rfl) (by kernel_rfl) (by decide) (fun _ _ d _ _ h => by cases d <;> exact h) (by first | with_reducible exact pr_start _ | exact pr_of (by (with_reducible (repeat' (first | exact z_r _ | assumption | refine z_d ?_ | refine z_n ?_ _ | refine z_a ?_ _ | refine z_s ?_ ?_ _ | refine z_t ?_ (by assumption)))); all_goals (simp <;> omega))) (fun hHeld => ?_)
 iterate 12 (apply SeqH.free; (· (simp only [z_0, z_1, z_2]; rfl)); (· first | exact Or.inr ⟨by rfl, rfl⟩ | (refine Or.inl ⟨by rfl, ?_⟩; intro w hSw; (try dsimp only at hSw); go_simp; try with_reducible rfl)); try simp only [Act.put, z_3, z_4, z_5])
 (apply SeqH.step; (· (simp only [z_0, z_1, z_2]; rfl)); intro K hK; go_simp; refine (HPA.out _ (X7.out.trans (by (with_reducible (repeat' (first | exact z_r _ | assumption | refine z_d ?_ | refine z_n ?_ _ | refine z_a ?_ _ | refine z_s ?_ ?_ _ | refine z_t ?_ (by assumption)))); all_goals (simp <;> omega)))).mono ?_; rintro e w8 ⟨v8, z8, q, rfl, x8, hb8, o8⟩; obtain ⟨a8, c8, rfl⟩ := o8.slice; have O8 := hide o8; have Q8 := hide hb8; generalize ((q.map (cellV W)).reverse).length = y8 at *; clear o8 hb8; go_wp2_with fail; refine hK.out _ _ (pr_of (by (with_reducible (repeat' (first | exact z_r _ | assumption | refine z_d ?_ | refine z_n ?_ _ | refine z_a ?_ _ | refine z_s ?_ ?_ _ | refine z_t ?_ (by assumption)))); all_goals (simp <;> omega))) (fun hHeld => ?_); clear hK K; try simp only [Act.put, z_3, z_4, z_5])
 iterate 7 (apply SeqH.free; (· (simp only [z_0, z_1, z_2]; rfl)); (· first | exact Or.inr ⟨by rfl, rfl⟩ | (refine Or.inl ⟨by rfl, ?_⟩; intro w hSw; (try dsimp only at hSw); go_simp; try with_reducible rfl)); try simp only [Act.put, z_3, z_4, z_5])
 refine SeqH.done ?_
 have XE := hide hHeld.2
 clear hHeld x8 s0 sz c0 c1 c2 c3 c4 cz b0 b1 b2 b3 b4 b5 b6 b7 b8 b9 b10 b11 bz k0 k1 k2 k3 kz
 have z7 := X7.out.size
 go_wp2
 go_ret
 exact ⟨_, q, rfl, X7.out.trans XE.out, Q8.out, O8.out.lower (by (try simp only [World.size_drew]); omega)⟩
end Go.Proofs.YtaellcgglldjaaaGreat

