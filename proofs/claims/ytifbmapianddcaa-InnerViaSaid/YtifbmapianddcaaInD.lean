/- Walk of look. -/
import Derived.Test.YtifbmapianddcaaInC
import Derived.Test.YtifbmapianddcaaPartB
import Derived.Test.YtifbmapianddcaaLib
import Derived.WalkMore
set_option linter.all false
set_option linter.unusedVariables false
set_option linter.unusedSimpArgs false
namespace Go.Proofs.Ytifbmapianddcaa
open Go.RowKit

set_option maxRecDepth 100000 in
theorem iLook_field {w : World} (W H : Int) (a : Option Addr) (n c : Nat) (PW PH s id : Int) (ca : Option Addr) (cn cc : Nat) (he : checkE W H n ≠ 0) :
    Calls Try.prog 74 #[.agg #[.int .i64 W, .int .i64 H, .slice a n c], .agg #[.int .i64 PW, .int .i64 PH, .int .i64 s], .int .i64 id, .slice ca cn cc] w fun e w' => e = .returned (.tuple #[.agg #[.int .i64 0, .int .i64 0, .slice none 0 0, .int .i64 0, .int .i64 0, .int .i64 0, .int .i64 0], .int .i64 (checkE W H n)]) ∧ Ext w w' := by
  have H1 := hide (fun w' => gCheck_any W H a n c w')
  generalize checkE W H n = er at *
  have hb : (er != 0) = true := by simpa using he
  clear he
  go_enter Try.func74, Try.ntmps74
  go_wp2_with fail
  apply wp_scope_straight
  go_wp2_with fail
  refine (H1.out _).mono ?_
  rintro e w1 ⟨rfl, hb1⟩
  obtain ⟨hc1, hf1⟩ := hb1.cells; have hz1 := hb1.size; (repeat (first | rw [World.size_alloc] at hz1 | rw [World.size_drew] at hz1)); have z1_0 : w.heap.size < w1.heap.size := (by omega); have z1_1 : w.heap.size + 1 < w1.heap.size := (by omega); have z1_2 : w.heap.size + 2 < w1.heap.size := (by omega)
  go_wp2_with fail
  rw [Exit.noGoto_ret]
  exact bodyPost_ret (v := .tuple #[.agg #[.int .i64 0, .int .i64 0, .slice none 0 0, .int .i64 0, .int .i64 0, .int .i64 0, .int .i64 0], .int .i64 er]) (by simp [results, Try.results74, go_sem, *]) rfl ⟨rfl, (by (with_reducible (repeat' (first | exact Ext.refl _ | assumption | refine Ext.drew ?_ | refine Ext.drewN ?_ _ | refine Ext.alloc ?_ _ | refine Ext.setCell ?_ ?_ _ | refine Ext.trans ?_ (by assumption)))); all_goals (first | (simp; done) | (simp; omega)))⟩

set_option maxRecDepth 100000 in
theorem iLook_size {w : World} (W H : Int) (a : Option Addr) (n c : Nat) (PW PH s id : Int) (ca : Option Addr) (cn cc : Nat) (he : checkE W H n = 0) (hs : ¬ (PW = W ∧ PH = H)) :
    Calls Try.prog 74 #[.agg #[.int .i64 W, .int .i64 H, .slice a n c], .agg #[.int .i64 PW, .int .i64 PH, .int .i64 s], .int .i64 id, .slice ca cn cc] w fun e w' => e = .returned (.tuple #[.agg #[.int .i64 0, .int .i64 0, .slice none 0 0, .int .i64 0, .int .i64 0, .int .i64 0, .int .i64 0], .int .i64 1]) ∧ Ext w w' := by
  have H1 := hide (fun w' => gCheck_any W H a n c w')
  rw [he] at H1
  have hq := fun w => eq_size PW PH W H w
  rw [show (PW == W && PH == H) = false by rw [Bool.eq_false_iff]; intro h; simp only [Bool.and_eq_true, beq_iff_eq] at h; exact hs h] at hq
  clear he hs
  go_enter Try.func74, Try.ntmps74
  go_wp2_with fail
  apply wp_scope_straight
  go_wp2_with fail
  refine (H1.out _).mono ?_
  rintro e w1 ⟨rfl, hb1⟩
  obtain ⟨hc1, hf1⟩ := hb1.cells; have hz1 := hb1.size; (repeat (first | rw [World.size_alloc] at hz1 | rw [World.size_drew] at hz1)); have z1_0 : w.heap.size < w1.heap.size := (by omega); have z1_1 : w.heap.size + 1 < w1.heap.size := (by omega); have z1_2 : w.heap.size + 2 < w1.heap.size := (by omega)
  go_wp2_with fail
  rw [Exit.noGoto_ret]
  exact bodyPost_ret (v := .tuple #[.agg #[.int .i64 0, .int .i64 0, .slice none 0 0, .int .i64 0, .int .i64 0, .int .i64 0, .int .i64 0], .int .i64 1]) (by simp [results, Try.results74, go_sem, *]) rfl ⟨rfl, (by (with_reducible (repeat' (first | exact Ext.refl _ | assumption | refine Ext.drew ?_ | refine Ext.drewN ?_ _ | refine Ext.alloc ?_ _ | refine Ext.setCell ?_ ?_ _ | refine Ext.trans ?_ (by assumption)))); all_goals (first | (simp; done) | (simp; omega)))⟩

set_option maxRecDepth 100000 in
theorem iLook_box {w : World} (W H : Int) (a : Option Addr) (n c : Nat) (s id : Int) (ca : Option Addr) (cn cc : Nat) (he : checkE W H n = 0) (hs : hasE W H s [id] ≠ 0) :
    Calls Try.prog 74 #[.agg #[.int .i64 W, .int .i64 H, .slice a n c], .agg #[.int .i64 W, .int .i64 H, .int .i64 s], .int .i64 id, .slice ca cn cc] w fun e w' => e = .returned (.tuple #[.agg #[.int .i64 0, .int .i64 0, .slice none 0 0, .int .i64 0, .int .i64 0, .int .i64 0, .int .i64 0], .int .i64 (hasE W H s [id])]) ∧ Ext w w' := by
  have H1 := hide (fun w' => gCheck_any W H a n c w')
  rw [he] at H1
  have hq := fun w => eq_size W H W H w
  rw [show (W == W && H == H) = true by simp] at hq
  have H2 := hide (fun (w' : World) => Box_no W H s id w' (by simpa using hs))
  generalize hasE W H s [id] = er at *
  have hb : (er != 0) = true := by simpa using hs
  clear he hs
  go_enter Try.func74, Try.ntmps74
  go_wp2_with fail
  apply wp_scope_straight
  go_wp2_with fail
  refine (H1.out _).mono ?_
  rintro e w1 ⟨rfl, hb1⟩
  obtain ⟨hc1, hf1⟩ := hb1.cells; have hz1 := hb1.size; (repeat (first | rw [World.size_alloc] at hz1 | rw [World.size_drew] at hz1)); have z1_0 : w.heap.size < w1.heap.size := (by omega); have z1_1 : w.heap.size + 1 < w1.heap.size := (by omega); have z1_2 : w.heap.size + 2 < w1.heap.size := (by omega)
  go_wp2_with fail
  refine (H2.out _).mono ?_
  rintro e w2 ⟨rfl, hb2⟩
  obtain ⟨hc2, hf2⟩ := hb2.cells; have hz2 := hb2.size; (repeat (first | rw [World.size_alloc] at hz2 | rw [World.size_drew] at hz2)); have z2_0 : w.heap.size < w2.heap.size := (by omega); have z2_1 : w.heap.size + 1 < w2.heap.size := (by omega); have z2_2 : w.heap.size + 2 < w2.heap.size := (by omega)
  go_wp2_with fail
  rw [Exit.noGoto_ret]
  exact bodyPost_ret (v := .tuple #[.agg #[.int .i64 0, .int .i64 0, .slice none 0 0, .int .i64 0, .int .i64 0, .int .i64 0, .int .i64 0], .int .i64 er]) (by simp [results, Try.results74, go_sem, *]) rfl ⟨rfl, (by (with_reducible (repeat' (first | exact Ext.refl _ | assumption | refine Ext.drew ?_ | refine Ext.drewN ?_ _ | refine Ext.alloc ?_ _ | refine Ext.setCell ?_ ?_ _ | refine Ext.trans ?_ (by assumption)))); all_goals (first | (simp; done) | (simp; omega)))⟩

set_option maxRecDepth 100000 in
set_option maxHeartbeats 1000000 in
theorem iLook_cells {w : World} (W H : Int) (a : Option Addr) (n c : Nat) (s id : Int) (ca : Option Addr) (cs : List Cell) (cc : Nat) (he : checkE W H n = 0) (hr : rightB W H s = true) (h0 : 0 ≤ id) (hid : id < cnt W H s) (hc : RowC w ca cs) (hl : cs.length ≤ 1000000) (hi : ∀ p ∈ cs, InI p.1 ∧ InI p.2) :
    Calls Try.prog 74 #[.agg #[.int .i64 W, .int .i64 H, .slice a n c], .agg #[.int .i64 W, .int .i64 H, .int .i64 s], .int .i64 id, .slice ca cs.length cc] w fun e w' => e = .returned (.tuple #[.agg #[.int .i64 W, .int .i64 H, .slice a n c, .int .i64 (boxX W s id), .int .i64 (boxY W s id), .int .i64 (boxW W s id), .int .i64 (boxH W H s id)], .int .i64 (cellsE W H s id cs cs.length)]) ∧ Ext w w' := by
  have H1 := hide (fun w' => gCheck_any W H a n c w')
  rw [he] at H1
  have hq := fun w => eq_size W H W H w
  rw [show (W == W && H == H) = true by simp] at hq
  have H2 := hide (fun (w' : World) => Box_yes W H s id w' hr h0 hid)
  have HC := hide hc
  have HIN := hide hi
  have HR := hide hr
  have eW : boxW W s id = min s (W - boxX W s id) := rfl
  have eH : boxH W H s id = min s (H - boxY W s id) := rfl
  rw [← eW, ← eH] at H2
  obtain ⟨m, hm⟩ : ∃ z, cs.length = z := ⟨_, rfl⟩
  have HM := hide hm
  rw [hm] at hl ⊢
  clear he hr h0 hid hc hi hm eW eH
  generalize boxX W s id = X at *
  generalize boxY W s id = Y at *
  generalize boxW W s id = BW at *
  generalize boxH W H s id = BH at *
  go_enter Try.func74, Try.ntmps74
  go_wp2_with fail
  apply wp_scope_straight
  go_wp2_with fail
  refine (H1.out _).mono ?_
  rintro e w1 ⟨rfl, hb1⟩
  have BF1 : Hid (Blk w1 (w.heap.size) 26 #[.int .i64 W, .int .i64 H, .slice a n c]) := hide (by refine Blk.ext ?_ hb1; (repeat' (first | exact Blk.new_ (by simp) | refine Blk.drew ?_ | refine Blk.over ?_)))
  have BP1 : Hid (Blk w1 (w.heap.size + 1) 51 #[.int .i64 W, .int .i64 H, .int .i64 s]) := hide (by refine Blk.ext ?_ hb1; (repeat' (first | exact Blk.new_ (by simp) | refine Blk.drew ?_ | refine Blk.over ?_)))
  have BR1 : Hid (Blk w1 (w.heap.size + 2) 134 #[.int .i64 0, .int .i64 0, .slice none 0 0, .int .i64 0, .int .i64 0, .int .i64 0, .int .i64 0]) := hide (by refine Blk.ext ?_ hb1; (repeat' (first | exact Blk.new_ (by simp) | refine Blk.drew ?_ | refine Blk.over ?_)))
  have HX1 := hide (show Ext w w1 from (by (with_reducible (repeat' (first | exact Ext.refl _ | assumption | refine Ext.drew ?_ | refine Ext.drewN ?_ _ | refine Ext.alloc ?_ _ | refine Ext.setCell ?_ ?_ _ | refine Ext.trans ?_ (by assumption)))); all_goals (first | (simp; done) | (simp; omega))))
  clear hb1
  have f0 := BF1.out.at 0 rfl; have f1 := BF1.out.at 1 rfl; have f2 := BF1.out.at 2 rfl; have fz := BF1.out.lt
  have p0 := BP1.out.at 0 rfl; have p1 := BP1.out.at 1 rfl; have p2 := BP1.out.at 2 rfl; have pz := BP1.out.lt
  go_wp2_with fail
  refine (H2.out _).mono ?_
  rintro e w2 ⟨rfl, hb2⟩
  have BF2 := hide (Blk.ext BF1.out hb2)
  have BP2 := hide (Blk.ext BP1.out hb2)
  have BR2 := hide (Blk.ext BR1.out hb2)
  have HX2 := hide (HX1.out.trans hb2)
  have hz2 : w.heap.size + 3 ≤ w2.heap.size := by have := BR2.out.lt; omega
  clear hb2 f0 f1 f2 fz p0 p1 p2 pz BF1 BP1 BR1 HX1
  go_wp2_with fail
  obtain ⟨w3, hw3⟩ : ∃ w3, w3 = w2.alloc (.cells #[.int .i64 X, .int .i64 Y, .int .i64 BW, .int .i64 BH] 64) := ⟨_, rfl⟩
  have hx3 : Ext w2 w3 := by rw [hw3]; exact (Ext.refl _).alloc _
  have BB3 := hide (show Blk w3 w2.heap.size 64 #[.int .i64 X, .int .i64 Y, .int .i64 BW, .int .i64 BH] by rw [hw3]; exact Blk.new_ rfl)
  have BF3 := hide (Blk.ext BF2.out hx3)
  have BP3 := hide (Blk.ext BP2.out hx3)
  have BR3 := hide (Blk.ext BR2.out hx3)
  have HX3 := hide (HX2.out.trans hx3)
  have hz3 : w2.heap.size + 1 ≤ w3.heap.size := by have := BB3.out.lt; omega
  rw [← hw3]
  obtain ⟨xb, hxb⟩ : ∃ z, w2.heap.size = z := ⟨_, rfl⟩
  rw [hxb] at BB3 hz3 hz2 ⊢
  clear hw3 hx3 hxb BF2 BP2 BR2 HX2
  go_step3
  go_wp2_with fail
  go_loopw [12, 41] (fun ev iv wr => ∃ k : Nat, k ≤ m ∧ iv = .int .i64 k ∧ ev = .int .i64 0 ∧ cellsE W H s id cs k = 0 ∧ Ext w3 wr) (fun _ iv _ => m - (intOf iv).toNat)
  case atStart => exact ⟨0, Nat.zero_le _, rfl, rfl, rfl, Ext.refl _⟩
  case round =>
    obtain ⟨k, hk, rfl, rfl, hce, hx⟩ := hrel
    have HCE := hide hce
    have XR := hide hx
    have BFr := hide (Blk.ext BF3.out hx)
    have BPr := hide (Blk.ext BP3.out hx)
    have BRr := hide (Blk.ext BR3.out hx)
    have BBr := hide (Blk.ext BB3.out hx)
    have hzr := hx.size
    clear hce hx
    by_cases hlt : k < m
    · have hkl : k < cs.length := by rw [HM.out]; exact hlt
      obtain ⟨b, off, rfl, hb, hcc⟩ := HC.out (by omega)
      have hxw := HX3.out.trans XR.out
      have hq0 := hcc k hkl
      have hgd : cs.getD k (0, 0) = cs[k] := by simp [List.getD_eq_getElem?_getD, hkl]
      have hini := HIN.out cs[k] (List.getElem_mem hkl)
      obtain ⟨⟨qx, qy⟩, hqe⟩ : ∃ q, cs[k] = q := ⟨_, rfl⟩
      rw [hqe] at hq0 hgd hini
      have HGD := hide hgd
      have d0 := (hxw.cell (p := ⟨b, off + k * 2, none⟩) hb).trans hq0.1
      have d1 := (hxw.cell (p := ⟨b, off + k * 2 + 1, none⟩) hb).trans hq0.2
      have zb : b < wr.heap.size := Nat.lt_of_lt_of_le hb hxw.size
      have HCC := hide (fun k' (h : k' < cs.length) => hcc k' h)
      have HB := hide hb
      have HXW := hide hxw
      have jk : (k : Int) < (m : Int) := by omega
      clear hkl hcc hq0 hgd hqe hxw hb
      have p0 := BPr.out.at 0 rfl; have p1 := BPr.out.at 1 rfl; have p2 := BPr.out.at 2 rfl; have pz := BPr.out.lt
      have END : Hid (∀ e : Int, cellBad W H s id cs k = e → e ≠ 0 → cellsE W H s id cs m = e) := hide (fun e h1 h2 => by rw [cellsE_at HCE.out (by rw [h1]; exact h2) hlt, h1])
      cases hin : inB W H qx qy
      · have HE := hide (END.out 10 (by unfold cellBad; rw [HGD.out]; unfold inId; rw [hin]; rfl) (by decide))
        have HOF := hide (fun w' => of_range W H s qx qy w' HR.out hin)
        clear hin END
        go_wp2_with fail
        refine (HOF.out _).mono ?_
        rintro e w5 ⟨rfl, hb5⟩
        have hx5 : Ext wr w5 := (by (with_reducible (repeat' (first | exact Ext.refl _ | assumption | refine Ext.drew ?_ | refine Ext.drewN ?_ _ | refine Ext.alloc ?_ _ | refine Ext.setCell ?_ ?_ _ | refine Ext.trans ?_ (by assumption)))); all_goals (first | (simp; done) | (simp; omega)))
        have BF5 := hide (Blk.ext BFr.out hx5)
        have BR5 := hide (Blk.ext BRr.out hx5)
        have BB5 := hide (Blk.ext BBr.out hx5)
        have hxx := HXW.out.trans hx5
        clear hb5 hx5 p0 p1 p2 pz d0 d1
        have f0 := BF5.out.at 0 rfl; have f1 := BF5.out.at 1 rfl; have f2 := BF5.out.at 2 rfl; have fz := BF5.out.lt
        have g0 := BB5.out.at 0 rfl; have g1 := BB5.out.at 1 rfl; have g2 := BB5.out.at 2 rfl; have g3 := BB5.out.at 3 rfl; have gz := BB5.out.lt
        have r0 := BR5.out.at 0 rfl; have r1 := BR5.out.at 1 rfl; have r2 := BR5.out.at 2 rfl; have r3 := BR5.out.at 3 rfl; have r4 := BR5.out.at 4 rfl; have r5 := BR5.out.at 5 rfl; have r6 := BR5.out.at 6 rfl; have rz := BR5.out.lt
        have t0 := BR5.out.frozen 0
        have t1 := BR5.out.frozen 1
        have t2 := BR5.out.frozen 2
        have t3 := BR5.out.frozen 3
        have t4 := BR5.out.frozen 4
        have t5 := BR5.out.frozen 5
        have t6 := BR5.out.frozen 6
        go_wp2_with fail
        rw [Exit.noGoto_ret]
        exact bodyPost_ret (v := .tuple #[.agg #[.int .i64 W, .int .i64 H, .slice a n c, .int .i64 X, .int .i64 Y, .int .i64 BW, .int .i64 BH], .int .i64 10]) (by simp [results, Try.results74, go_sem, *]) rfl ⟨by rw [HE.out], (by (with_reducible (repeat' (first | exact Ext.refl _ | assumption | refine Ext.drew ?_ | refine Ext.drewN ?_ _ | refine Ext.alloc ?_ _ | refine Ext.setCell ?_ ?_ _ | refine Ext.trans ?_ (by assumption)))); all_goals (first | (simp; done) | (simp; omega)))⟩
      · have HOF := hide (fun w' => of_yes W H s qx qy w' HR.out hin)
        have hid1 : inId W H s id (qx, qy) = decide (ofN W s qx qy = id) := by unfold inId; rw [hin]; rfl
        obtain ⟨om, hom⟩ : ∃ z, ofN W s qx qy = z := ⟨_, rfl⟩
        rw [hom] at HOF hid1
        have HID := hide hid1
        clear hin hom hid1
        by_cases hoi : om = id
        · rw [hoi] at HOF HID
          have hne : (id != id) = false := by simp
          have HIT : Hid (inId W H s id (cs.getD k (0, 0)) = true) := hide (by rw [HGD.out, HID.out]; simp)
          clear hoi
          go_wp2_with fail
          refine (HOF.out _).mono ?_
          rintro e w5 ⟨rfl, hb5⟩
          have MC : Hid (Blk w5 (wr.heap.size) 28 #[.int .i64 qx, .int .i64 qy]) := hide (by refine Blk.ext ?_ hb5; (repeat' (first | exact Blk.new_ (by simp) | refine Blk.drew ?_ | refine Blk.over ?_)))
          have hx5 : Ext wr w5 := (by (with_reducible (repeat' (first | exact Ext.refl _ | assumption | refine Ext.drew ?_ | refine Ext.drewN ?_ _ | refine Ext.alloc ?_ _ | refine Ext.setCell ?_ ?_ _ | refine Ext.trans ?_ (by assumption)))); all_goals (first | (simp; done) | (simp; omega)))
          have HX5 := hide hx5
          clear hb5 p0 p1 p2 pz d0 d1
          obtain ⟨mb, hmb⟩ : ∃ z, wr.heap.size = z := ⟨_, rfl⟩
          rw [hmb] at MC ⊢
          clear hmb
          have c0 := MC.out.at 0 rfl; have c1 := MC.out.at 1 rfl; have cz := MC.out.lt
          by_cases hk0 : k = 0
          · subst hk0
            have HN := hide (cellsE_next HCE.out (by unfold cellBad; rw [if_neg (by rw [HIT.out]; simp), if_neg (fun h => absurd h.1 (Nat.lt_irrefl 0))]))
            clear END hx5
            go_wp2_with fail
            refine seqH_start (S := (fun W => (∀ b o, b < w5.heap.size → W.cell? ⟨b, o, none⟩ = w5.cell? ⟨b, o, none⟩) ∧ Ext w5 W)) [(0, true), (1, true), (2, true), (3, true), (4, true), (5, true), (6, true), (7, true), (8, true), (9, true), (10, true), (11, true), (12, true)] (by kernel_rfl) (by kernel_rfl) (by kernel_rfl) (by decide) (fun _ _ d _ _ h => by cases d <;> exact h) (by first | with_reducible exact pr_start _ | exact pr_of (by (with_reducible (repeat' (first | exact Ext.refl _ | assumption | refine Ext.drew ?_ | refine Ext.drewN ?_ _ | refine Ext.alloc ?_ _ | refine Ext.setCell ?_ ?_ _ | refine Ext.trans ?_ (by assumption)))); all_goals (first | (simp; done) | (simp; omega)))) (fun hHeld => ?_)
            iterate 13 (apply SeqH.free; (· (simp only [List.getElem?_toArray, List.getElem?_cons_succ, List.getElem?_cons_zero]; rfl)); (· first | exact Or.inr ⟨by rfl, rfl⟩ | (refine Or.inl ⟨by rfl, ?_⟩; intro w hSw; (try dsimp only at hSw); go_simp; try with_reducible rfl)); try simp only [Act.put, List.setIfInBounds_toArray, List.set_cons_zero, List.set_cons_succ])
            refine SeqH.done ?_
            have hx6 := hHeld.2
            clear hHeld
            go_wp2_with fail
            go_roundw
            case rel => exact ⟨1, by omega, by go_num, rfl, HN.out, (XR.out.trans HX5.out).trans hx6⟩
            case measure => simp [intOf]; omega
          · obtain ⟨k', rfl⟩ : ∃ k', k = k' + 1 := ⟨k - 1, by omega⟩
            have hkl : k' < cs.length := by rw [HM.out]; omega
            have hq1 := HCC.out k' hkl
            have hgd1 : cs.getD k' (0, 0) = cs[k'] := by simp [List.getD_eq_getElem?_getD, hkl]
            obtain ⟨⟨px, py⟩, hpe⟩ : ∃ q, cs[k'] = q := ⟨_, rfl⟩
            rw [hpe] at hq1 hgd1
            have hxw5 := HXW.out.trans hx5
            have e0 := (hxw5.cell (p := ⟨b, off + k' * 2, none⟩) HB.out).trans hq1.1
            have e1 := (hxw5.cell (p := ⟨b, off + k' * 2 + 1, none⟩) HB.out).trans hq1.2
            have zb5 : b < w5.heap.size := Nat.lt_of_lt_of_le HB.out hxw5.size
            have HRI := hide (fun w' => iRises_any (px, py) (qx, qy) w')
            have HBD : Hid (cellBad W H s id cs (k' + 1) = if riseB (px, py) (qx, qy) = false then 11 else 0) := hide (by
              unfold cellBad
              rw [if_neg (by rw [HIT.out]; simp), HGD.out, Nat.add_sub_cancel, hgd1]
              by_cases h : riseB (px, py) (qx, qy) = false
              · rw [if_pos ⟨Nat.succ_pos _, h⟩, if_pos h]
              · rw [if_neg (fun k => h k.2), if_neg h])
            have jk' : (k' : Int) < (m : Int) := by omega
            have s1 : IntKind.i64.wrap ((k' : Int) + 1 - 1) = (k' : Int) := by rw [Int.add_sub_cancel]; exact IntWalk.i64_in _ (by omega)
            have s3 : IntKind.i64.wrap (k' : Int) = (k' : Int) := IntWalk.i64_in _ (by omega)
            have s2 : decide ((0 : Int) < (k' : Int) + 1) = true := by simp <;> omega
            clear hq1 hgd1 hpe hkl hxw5 hk0
            simp only at HRI
            cases hri : riseB (px, py) (qx, qy)
            · rw [hri] at HRI HBD
              have HE := hide (END.out 11 (by rw [HBD.out]; rfl) (by decide))
              clear END HBD hri
              go_wp2_with fail
              refine seqH_start (S := (fun W => (∀ b o, b < w5.heap.size → W.cell? ⟨b, o, none⟩ = w5.cell? ⟨b, o, none⟩) ∧ Ext w5 W)) [(0, true), (1, true), (2, true), (3, true), (4, true), (5, true), (6, true), (7, true), (8, true), (9, false), (10, true), (11, true), (12, true)] (by kernel_rfl) (by kernel_rfl) (by kernel_rfl) (by decide) (fun _ _ d _ _ h => by cases d <;> exact h) (by first | with_reducible exact pr_start _ | exact pr_of (by (with_reducible (repeat' (first | exact Ext.refl _ | assumption | refine Ext.drew ?_ | refine Ext.drewN ?_ _ | refine Ext.alloc ?_ _ | refine Ext.setCell ?_ ?_ _ | refine Ext.trans ?_ (by assumption)))); all_goals (first | (simp; done) | (simp; omega)))) (fun hHeld => ?_)
              iterate 9 (apply SeqH.free; (· (simp only [List.getElem?_toArray, List.getElem?_cons_succ, List.getElem?_cons_zero]; rfl)); (· first | exact Or.inr ⟨by rfl, rfl⟩ | (refine Or.inl ⟨by rfl, ?_⟩; intro w hSw; (try dsimp only at hSw); go_simp; try with_reducible rfl)); try simp only [Act.put, List.setIfInBounds_toArray, List.set_cons_zero, List.set_cons_succ])
              (apply SeqH.step; (· (simp only [List.getElem?_toArray, List.getElem?_cons_succ, List.getElem?_cons_zero]; rfl)); intro K hK; go_simp; refine (HRI.out _).mono ?_; rintro e w8 ⟨rfl, hb8⟩; go_wp2_with fail; refine hK.out _ _ (pr_of (by (with_reducible (repeat' (first | exact Ext.refl _ | assumption | refine Ext.drew ?_ | refine Ext.drewN ?_ _ | refine Ext.alloc ?_ _ | refine Ext.setCell ?_ ?_ _ | refine Ext.trans ?_ (by assumption)))); all_goals (first | (simp; done) | (simp; omega)))) (fun hHeld => ?_); clear hK K; try simp only [Act.put, List.setIfInBounds_toArray, List.set_cons_zero, List.set_cons_succ])
              iterate 3 (apply SeqH.free; (· (simp only [List.getElem?_toArray, List.getElem?_cons_succ, List.getElem?_cons_zero]; rfl)); (· first | exact Or.inr ⟨by rfl, rfl⟩ | (refine Or.inl ⟨by rfl, ?_⟩; intro w hSw; (try dsimp only at hSw); go_simp; try with_reducible rfl)); try simp only [Act.put, List.setIfInBounds_toArray, List.set_cons_zero, List.set_cons_succ])
              refine SeqH.done ?_
              have hx8 := hx5.trans hHeld.2
              clear hHeld hb8 hx5 e0 e1 c0 c1 cz zb5
              have hx5 := hx8
              clear hx8
              have BFn := hide (Blk.ext BFr.out hx5)
              have BRn := hide (Blk.ext BRr.out hx5)
              have BBn := hide (Blk.ext BBr.out hx5)
              have hxx := HXW.out.trans hx5
              have f0 := BFn.out.at 0 rfl; have f1 := BFn.out.at 1 rfl; have f2 := BFn.out.at 2 rfl; have fz := BFn.out.lt
              have g0 := BBn.out.at 0 rfl; have g1 := BBn.out.at 1 rfl; have g2 := BBn.out.at 2 rfl; have g3 := BBn.out.at 3 rfl; have gz := BBn.out.lt
              have r0 := BRn.out.at 0 rfl; have r1 := BRn.out.at 1 rfl; have r2 := BRn.out.at 2 rfl; have r3 := BRn.out.at 3 rfl; have r4 := BRn.out.at 4 rfl; have r5 := BRn.out.at 5 rfl; have r6 := BRn.out.at 6 rfl; have rz := BRn.out.lt
              have t0 := BRn.out.frozen 0
              have t1 := BRn.out.frozen 1
              have t2 := BRn.out.frozen 2
              have t3 := BRn.out.frozen 3
              have t4 := BRn.out.frozen 4
              have t5 := BRn.out.frozen 5
              have t6 := BRn.out.frozen 6
              go_wp2_with fail
              rw [Exit.noGoto_ret]
              exact bodyPost_ret (v := .tuple #[.agg #[.int .i64 W, .int .i64 H, .slice a n c, .int .i64 X, .int .i64 Y, .int .i64 BW, .int .i64 BH], .int .i64 11]) (by simp [results, Try.results74, go_sem, *]) rfl ⟨by rw [HE.out], (by (with_reducible (repeat' (first | exact Ext.refl _ | assumption | refine Ext.drew ?_ | refine Ext.drewN ?_ _ | refine Ext.alloc ?_ _ | refine Ext.setCell ?_ ?_ _ | refine Ext.trans ?_ (by assumption)))); all_goals (first | (simp; done) | (simp; omega)))⟩
            · rw [hri] at HRI HBD
              have HN := hide (cellsE_next HCE.out (by rw [HBD.out]; rfl))
              clear END HBD hri hx5
              go_wp2_with fail
              refine seqH_start (S := (fun W => (∀ b o, b < w5.heap.size → W.cell? ⟨b, o, none⟩ = w5.cell? ⟨b, o, none⟩) ∧ Ext w5 W)) [(0, true), (1, true), (2, true), (3, true), (4, true), (5, true), (6, true), (7, true), (8, true), (9, false), (10, true), (11, true), (12, true)] (by kernel_rfl) (by kernel_rfl) (by kernel_rfl) (by decide) (fun _ _ d _ _ h => by cases d <;> exact h) (by first | with_reducible exact pr_start _ | exact pr_of (by (with_reducible (repeat' (first | exact Ext.refl _ | assumption | refine Ext.drew ?_ | refine Ext.drewN ?_ _ | refine Ext.alloc ?_ _ | refine Ext.setCell ?_ ?_ _ | refine Ext.trans ?_ (by assumption)))); all_goals (first | (simp; done) | (simp; omega)))) (fun hHeld => ?_)
              iterate 9 (apply SeqH.free; (· (simp only [List.getElem?_toArray, List.getElem?_cons_succ, List.getElem?_cons_zero]; rfl)); (· first | exact Or.inr ⟨by rfl, rfl⟩ | (refine Or.inl ⟨by rfl, ?_⟩; intro w hSw; (try dsimp only at hSw); go_simp; try with_reducible rfl)); try simp only [Act.put, List.setIfInBounds_toArray, List.set_cons_zero, List.set_cons_succ])
              (apply SeqH.step; (· (simp only [List.getElem?_toArray, List.getElem?_cons_succ, List.getElem?_cons_zero]; rfl)); intro K hK; go_simp; refine (HRI.out _).mono ?_; rintro e w8 ⟨rfl, hb8⟩; go_wp2_with fail; refine hK.out _ _ (pr_of (by (with_reducible (repeat' (first | exact Ext.refl _ | assumption | refine Ext.drew ?_ | refine Ext.drewN ?_ _ | refine Ext.alloc ?_ _ | refine Ext.setCell ?_ ?_ _ | refine Ext.trans ?_ (by assumption)))); all_goals (first | (simp; done) | (simp; omega)))) (fun hHeld => ?_); clear hK K; try simp only [Act.put, List.setIfInBounds_toArray, List.set_cons_zero, List.set_cons_succ])
              iterate 3 (apply SeqH.free; (· (simp only [List.getElem?_toArray, List.getElem?_cons_succ, List.getElem?_cons_zero]; rfl)); (· first | exact Or.inr ⟨by rfl, rfl⟩ | (refine Or.inl ⟨by rfl, ?_⟩; intro w hSw; (try dsimp only at hSw); go_simp; try with_reducible rfl)); try simp only [Act.put, List.setIfInBounds_toArray, List.set_cons_zero, List.set_cons_succ])
              refine SeqH.done ?_
              have hx6 := hHeld.2
              clear hHeld hb8
              go_wp2_with fail
              go_roundw
              case rel => exact ⟨k' + 1 + 1, by omega, by go_num, rfl, HN.out, (XR.out.trans HX5.out).trans hx6⟩
              case measure => simp [intOf]; omega
        · have hne : (om != id) = true := by simpa using hoi
          have HE := hide (END.out 10 (by unfold cellBad; rw [HGD.out, HID.out]; simp [hoi]) (by decide))
          clear END hoi
          go_wp2_with fail
          refine (HOF.out _).mono ?_
          rintro e w5 ⟨rfl, hb5⟩
          have hx5 : Ext wr w5 := (by (with_reducible (repeat' (first | exact Ext.refl _ | assumption | refine Ext.drew ?_ | refine Ext.drewN ?_ _ | refine Ext.alloc ?_ _ | refine Ext.setCell ?_ ?_ _ | refine Ext.trans ?_ (by assumption)))); all_goals (first | (simp; done) | (simp; omega)))
          clear hb5
          have BFn := hide (Blk.ext BFr.out hx5)
          have BRn := hide (Blk.ext BRr.out hx5)
          have BBn := hide (Blk.ext BBr.out hx5)
          have hxx := HXW.out.trans hx5
          clear p0 p1 p2 pz d0 d1
          have f0 := BFn.out.at 0 rfl; have f1 := BFn.out.at 1 rfl; have f2 := BFn.out.at 2 rfl; have fz := BFn.out.lt
          have g0 := BBn.out.at 0 rfl; have g1 := BBn.out.at 1 rfl; have g2 := BBn.out.at 2 rfl; have g3 := BBn.out.at 3 rfl; have gz := BBn.out.lt
          have r0 := BRn.out.at 0 rfl; have r1 := BRn.out.at 1 rfl; have r2 := BRn.out.at 2 rfl; have r3 := BRn.out.at 3 rfl; have r4 := BRn.out.at 4 rfl; have r5 := BRn.out.at 5 rfl; have r6 := BRn.out.at 6 rfl; have rz := BRn.out.lt
          have t0 := BRn.out.frozen 0
          have t1 := BRn.out.frozen 1
          have t2 := BRn.out.frozen 2
          have t3 := BRn.out.frozen 3
          have t4 := BRn.out.frozen 4
          have t5 := BRn.out.frozen 5
          have t6 := BRn.out.frozen 6
          go_wp2_with fail
          rw [Exit.noGoto_ret]
          exact bodyPost_ret (v := .tuple #[.agg #[.int .i64 W, .int .i64 H, .slice a n c, .int .i64 X, .int .i64 Y, .int .i64 BW, .int .i64 BH], .int .i64 10]) (by simp [results, Try.results74, go_sem, *]) rfl ⟨by rw [HE.out], (by (with_reducible (repeat' (first | exact Ext.refl _ | assumption | refine Ext.drew ?_ | refine Ext.drewN ?_ _ | refine Ext.alloc ?_ _ | refine Ext.setCell ?_ ?_ _ | refine Ext.trans ?_ (by assumption)))); all_goals (first | (simp; done) | (simp; omega)))⟩
    · obtain rfl : k = m := by omega
      have HE := hide HCE.out
      have hxx := HX3.out.trans XR.out
      have f0 := BFr.out.at 0 rfl; have f1 := BFr.out.at 1 rfl; have f2 := BFr.out.at 2 rfl; have fz := BFr.out.lt
      have g0 := BBr.out.at 0 rfl; have g1 := BBr.out.at 1 rfl; have g2 := BBr.out.at 2 rfl; have g3 := BBr.out.at 3 rfl; have gz := BBr.out.lt
      have r0 := BRr.out.at 0 rfl; have r1 := BRr.out.at 1 rfl; have r2 := BRr.out.at 2 rfl; have r3 := BRr.out.at 3 rfl; have r4 := BRr.out.at 4 rfl; have r5 := BRr.out.at 5 rfl; have r6 := BRr.out.at 6 rfl; have rz := BRr.out.lt
      have t0 := BRr.out.frozen 0
      have t1 := BRr.out.frozen 1
      have t2 := BRr.out.frozen 2
      have t3 := BRr.out.frozen 3
      have t4 := BRr.out.frozen 4
      have t5 := BRr.out.frozen 5
      have t6 := BRr.out.frozen 6
      go_wp2_with fail
      rw [Exit.noGoto_ret]
      exact bodyPost_ret (v := .tuple #[.agg #[.int .i64 W, .int .i64 H, .slice a n c, .int .i64 X, .int .i64 Y, .int .i64 BW, .int .i64 BH], .int .i64 0]) (by simp [results, Try.results74, go_sem, *]) rfl ⟨by rw [HE.out], (by (with_reducible (repeat' (first | exact Ext.refl _ | assumption | refine Ext.drew ?_ | refine Ext.drewN ?_ _ | refine Ext.alloc ?_ _ | refine Ext.setCell ?_ ?_ _ | refine Ext.trans ?_ (by assumption)))); all_goals (first | (simp; done) | (simp; omega)))⟩
/-- look, whole. -/
def LookV (W H : Int) (a : Option Addr) (n c : Nat) (s id : Int) (er : Int) (v : Value) : Prop :=
  (er ≠ 0 ∧ ∃ x1 x2 a3 n3 c3 x4 x5 x6 x7, v = .agg #[.int .i64 x1, .int .i64 x2, .slice a3 n3 c3, .int .i64 x4, .int .i64 x5, .int .i64 x6, .int .i64 x7]) ∨
  (er = 0 ∧ v = .agg #[.int .i64 W, .int .i64 H, .slice a n c, .int .i64 (boxX W s id), .int .i64 (boxY W s id), .int .i64 (boxW W s id), .int .i64 (boxH W H s id)])
theorem iLook_any {w : World} (W H : Int) (a : Option Addr) (n c : Nat) (PW PH s id : Int) (ca : Option Addr) (cs : List Cell) (cc : Nat) (hc : RowC w ca cs) (hl : cs.length ≤ 1000000) (hi : ∀ p ∈ cs, InI p.1 ∧ InI p.2) :
    Calls Try.prog 74 #[.agg #[.int .i64 W, .int .i64 H, .slice a n c], .agg #[.int .i64 PW, .int .i64 PH, .int .i64 s], .int .i64 id, .slice ca cs.length cc] w fun e w' => (∃ v, e = .returned (.tuple #[v, .int .i64 (innerE W H n PW PH s id cs)]) ∧ LookV W H a n c s id (innerE W H n PW PH s id cs) v) ∧ Ext w w' := by
  by_cases h1 : checkE W H n = 0
  · by_cases h2 : PW = W ∧ PH = H
    · obtain ⟨rfl, rfl⟩ := h2
      have he : innerE PW PH n PW PH s id cs = if rightB PW PH s = true then (if bad PW PH s id = true then 10 else cellsE PW PH s id cs cs.length) else 1 := by unfold innerE; rw [if_pos h1, if_pos ⟨rfl, rfl⟩]
      have hh : hasE PW PH s [id] = if rightB PW PH s = true then (if bad PW PH s id = true then 10 else 0) else 1 := by unfold hasE; simp
      by_cases h3 : hasE PW PH s [id] = 0
      · have hr : rightB PW PH s = true := by
          cases k : rightB PW PH s
          · rw [hh, k] at h3; cases h3
          · rfl
        have hb : bad PW PH s id = false := by
          cases k : bad PW PH s id
          · rfl
          · rw [hh, hr, k] at h3; cases h3
        have hbi := bad_false_iff.1 hb
        rw [he, if_pos hr, if_neg (by rw [hb]; simp)]
        refine (iLook_cells PW PH a n c s id ca cs cc h1 hr hbi.1 hbi.2 hc hl hi).mono ?_
        rintro e w' ⟨rfl, hx⟩
        refine ⟨⟨_, rfl, ?_⟩, hx⟩
        by_cases h4 : cellsE PW PH s id cs cs.length = 0
        · exact .inr ⟨h4, rfl⟩
        · exact .inl ⟨h4, _, _, _, _, _, _, _, _, _, rfl⟩
      · have hee : innerE PW PH n PW PH s id cs = hasE PW PH s [id] := by
          rw [he, hh]
          cases k : rightB PW PH s
          · rfl
          · cases k2 : bad PW PH s id
            · rw [hh, k, k2] at h3; exact absurd rfl h3
            · rfl
        rw [hee]
        refine (iLook_box PW PH a n c s id ca cs.length cc h1 h3).mono ?_
        rintro e w' ⟨rfl, hx⟩
        exact ⟨⟨_, rfl, .inl ⟨h3, _, _, _, _, _, _, _, _, _, rfl⟩⟩, hx⟩
    · have hee : innerE W H n PW PH s id cs = 1 := by unfold innerE; rw [if_pos h1, if_neg h2]
      rw [hee]
      refine (iLook_size W H a n c PW PH s id ca cs.length cc h1 h2).mono ?_
      rintro e w' ⟨rfl, hx⟩
      exact ⟨⟨_, rfl, .inl ⟨by decide, _, _, _, _, _, _, _, _, _, rfl⟩⟩, hx⟩
  · have hee : innerE W H n PW PH s id cs = checkE W H n := by unfold innerE; rw [if_neg h1]
    rw [hee]
    refine (iLook_field W H a n c PW PH s id ca cs.length cc h1).mono ?_
    rintro e w' ⟨rfl, hx⟩
    exact ⟨⟨_, rfl, .inl ⟨h1, _, _, _, _, _, _, _, _, _, rfl⟩⟩, hx⟩
end Go.Proofs.Ytifbmapianddcaa
