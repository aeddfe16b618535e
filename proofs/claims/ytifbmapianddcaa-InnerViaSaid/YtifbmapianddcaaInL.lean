/- Walk of the reference's May, of chapter 13. -/
import Derived.Test.YtifbmapianddcaaInE
import Derived.Test.YtifbmapianddcaaRefC
set_option linter.all false
set_option linter.unusedVariables false
set_option linter.unusedSimpArgs false
namespace Go.Proofs.Ytifbmapianddcaa
open Go.RowKit

set_option maxRecDepth 100000 in
theorem r13May_field {w : World} (W H : Int) (a : Option Addr) (n c : Nat) (PW PH s id : Int) (ca : Option Addr) (cn cc : Nat) (he : checkE W H n ≠ 0) :
    Calls Try.prog 26 #[.agg #[.int .i64 W, .int .i64 H, .slice a n c], .agg #[.int .i64 PW, .int .i64 PH], .int .i64 s, .int .i64 id, .slice ca cn cc] w fun e w' => e = .returned (.int .i64 (checkE W H n)) ∧ Ext w w' := by
  have H1 := hide (fun w' => r04Check_any W H a n c w')
  generalize checkE W H n = er at *
  have hb : (er != 0) = true := by simpa using he
  clear he
  go_enter Try.func26, Try.ntmps26
  go_wp2_with (go_at_call 79; refine (H1.out _).mono ?_; rintro e w1 ⟨rfl, hb1⟩; obtain ⟨hc1, hf1⟩ := hb1.cells; have hz1 := hb1.size; (repeat (first | rw [World.size_alloc] at hz1 | rw [World.size_drew] at hz1)); have z1_0 : w.heap.size < w1.heap.size := (by omega); have z1_1 : w.heap.size + 1 < w1.heap.size := (by omega))
  go_ret
  exact ⟨rfl, (by (with_reducible (repeat' (first | exact Ext.refl _ | assumption | refine Ext.drew ?_ | refine Ext.drewN ?_ _ | refine Ext.alloc ?_ _ | refine Ext.setCell ?_ ?_ _ | refine Ext.trans ?_ (by assumption)))); all_goals (first | (simp; done) | (simp; omega)))⟩

set_option maxRecDepth 100000 in
theorem r13May_size {w : World} (W H : Int) (a : Option Addr) (n c : Nat) (PW PH s id : Int) (ca : Option Addr) (cn cc : Nat) (he : checkE W H n = 0) (hs : ¬ (PW = W ∧ PH = H)) :
    Calls Try.prog 26 #[.agg #[.int .i64 W, .int .i64 H, .slice a n c], .agg #[.int .i64 PW, .int .i64 PH], .int .i64 s, .int .i64 id, .slice ca cn cc] w fun e w' => e = .returned (.int .i64 1) ∧ Ext w w' := by
  have H1 := hide (fun w' => r04Check_any W H a n c w')
  rw [he] at H1
  have hq := fun w => eq_size PW PH W H w
  rw [show (PW == W && PH == H) = false by rw [Bool.eq_false_iff]; intro h; simp only [Bool.and_eq_true, beq_iff_eq] at h; exact hs h] at hq
  clear he hs
  go_enter Try.func26, Try.ntmps26
  go_wp2_with (go_at_call 79; refine (H1.out _).mono ?_; rintro e w1 ⟨rfl, hb1⟩; obtain ⟨hc1, hf1⟩ := hb1.cells; have hz1 := hb1.size; (repeat (first | rw [World.size_alloc] at hz1 | rw [World.size_drew] at hz1)); have z1_0 : w.heap.size < w1.heap.size := (by omega); have z1_1 : w.heap.size + 1 < w1.heap.size := (by omega))
  go_ret
  exact ⟨rfl, (by (with_reducible (repeat' (first | exact Ext.refl _ | assumption | refine Ext.drew ?_ | refine Ext.drewN ?_ _ | refine Ext.alloc ?_ _ | refine Ext.setCell ?_ ?_ _ | refine Ext.trans ?_ (by assumption)))); all_goals (first | (simp; done) | (simp; omega)))⟩

set_option maxRecDepth 100000 in
theorem r13May_side {w : World} (W H : Int) (a : Option Addr) (n c : Nat) (s id : Int) (ca : Option Addr) (cn cc : Nat) (he : checkE W H n = 0) (hs : rightB W H s = false) :
    Calls Try.prog 26 #[.agg #[.int .i64 W, .int .i64 H, .slice a n c], .agg #[.int .i64 W, .int .i64 H], .int .i64 s, .int .i64 id, .slice ca cn cc] w fun e w' => e = .returned (.int .i64 1) ∧ Ext w w' := by
  have H1 := hide (fun w' => r04Check_any W H a n c w')
  rw [he] at H1
  have hq := fun w => eq_size W H W H w
  rw [show (W == W && H == H) = true by simp] at hq
  have H2 := hide (fun w' => rRight_any W H s w')
  rw [hs] at H2
  clear he hs
  go_enter Try.func26, Try.ntmps26
  go_wp2_with (first
    | (go_at_call 79; refine (H1.out _).mono ?_; rintro e w1 ⟨rfl, hb1⟩; obtain ⟨hc1, hf1⟩ := hb1.cells; have hz1 := hb1.size; (repeat (first | rw [World.size_alloc] at hz1 | rw [World.size_drew] at hz1)); have z1_0 : w.heap.size < w1.heap.size := (by omega); have z1_1 : w.heap.size + 1 < w1.heap.size := (by omega))
    | (go_at_call 60; refine (H2.out _).mono ?_; rintro e w2 ⟨rfl, hb2⟩; obtain ⟨hc2, hf2⟩ := hb2.cells; have hz2 := hb2.size; (repeat (first | rw [World.size_alloc] at hz2 | rw [World.size_drew] at hz2)); have z2_0 : w.heap.size < w2.heap.size := (by omega); have z2_1 : w.heap.size + 1 < w2.heap.size := (by omega)))
  go_ret
  exact ⟨rfl, (by (with_reducible (repeat' (first | exact Ext.refl _ | assumption | refine Ext.drew ?_ | refine Ext.drewN ?_ _ | refine Ext.alloc ?_ _ | refine Ext.setCell ?_ ?_ _ | refine Ext.trans ?_ (by assumption)))); all_goals (first | (simp; done) | (simp; omega)))⟩

set_option maxRecDepth 100000 in
theorem r13May_id {w : World} (W H : Int) (a : Option Addr) (n c : Nat) (s id : Int) (ca : Option Addr) (cn cc : Nat) (he : checkE W H n = 0) (hr : rightB W H s = true) (hid : ¬ (0 ≤ id ∧ id < cnt W H s)) :
    Calls Try.prog 26 #[.agg #[.int .i64 W, .int .i64 H, .slice a n c], .agg #[.int .i64 W, .int .i64 H], .int .i64 s, .int .i64 id, .slice ca cn cc] w fun e w' => e = .returned (.int .i64 10) ∧ Ext w w' := by
  have H1 := hide (fun w' => r04Check_any W H a n c w')
  rw [he] at H1
  have hq := fun w => eq_size W H W H w
  rw [show (W == W && H == H) = true by simp] at hq
  have H2 := hide (fun w' => rRight_any W H s w')
  rw [hr] at H2
  have HR := hide hr
  have b0 := cnt_bd hr
  have hl := boxesAll_len hr
  obtain ⟨N, hN⟩ : ∃ N : Nat, (boxesAll W H s).length = N := ⟨_, rfl⟩
  have hN' : (boxesR W H s (acr H s).toNat).length = N := hN
  have nb : N ≤ 65536 := by omega
  have hid' : id < 0 ∨ (N : Int) ≤ id := by omega
  clear hl hid b0 he hr
  rcases hid' with hid' | hid'
  all_goals
    go_enter Try.func26, Try.ntmps26
    go_wp2_with (first
      | (go_at_call 79; refine (H1.out _).mono ?_; rintro e w1 ⟨rfl, hb1⟩; obtain ⟨hc1, hf1⟩ := hb1.cells; have hz1 := hb1.size; (repeat (first | rw [World.size_alloc] at hz1 | rw [World.size_drew] at hz1)); have z1_0 : w.heap.size < w1.heap.size := (by omega); have z1_1 : w.heap.size + 1 < w1.heap.size := (by omega))
      | (go_at_call 60; refine (H2.out _).mono ?_; rintro e w2 ⟨rfl, hb2⟩; obtain ⟨hc2, hf2⟩ := hb2.cells; have hz2 := hb2.size; (repeat (first | rw [World.size_alloc] at hz2 | rw [World.size_drew] at hz2)); have z2_0 : w.heap.size < w2.heap.size := (by omega); have z2_1 : w.heap.size + 1 < w2.heap.size := (by omega))
      | (go_at_call 28; refine (rBoxes_any _ _ _ _ HR.out).mono ?_; rintro e w3 ⟨v3, rfl, hb3, hv3⟩; obtain ⟨ao, co, rfl⟩ := hv3.slice; have HV := hide hv3; clear hv3; obtain ⟨hc3, hf3⟩ := hb3.cells; have hz3 := hb3.size; (repeat (first | rw [World.size_alloc] at hz3 | rw [World.size_drew] at hz3)); have z3_0 : w.heap.size < w3.heap.size := (by omega); have z3_1 : w.heap.size + 1 < w3.heap.size := (by omega)))
    go_ret
    exact ⟨rfl, (by (with_reducible (repeat' (first | exact Ext.refl _ | assumption | refine Ext.drew ?_ | refine Ext.drewN ?_ _ | refine Ext.alloc ?_ _ | refine Ext.setCell ?_ ?_ _ | refine Ext.trans ?_ (by assumption)))); all_goals (first | (simp; done) | (simp; omega)))⟩

set_option maxRecDepth 100000 in
set_option maxHeartbeats 2000000 in
theorem r13May_cells {w : World} (W H : Int) (a : Option Addr) (n c : Nat) (s : Int) (K : Nat) (ca : Option Addr) (cs : List Cell) (cc : Nat) (he : checkE W H n = 0) (hr : rightB W H s = true) (hid : (K : Int) < cnt W H s) (hc : RowC w ca cs) (hl : cs.length ≤ 1000000) (hi : ∀ p ∈ cs, InI p.1 ∧ InI p.2) :
    Calls Try.prog 26 #[.agg #[.int .i64 W, .int .i64 H, .slice a n c], .agg #[.int .i64 W, .int .i64 H], .int .i64 s, .int .i64 (K : Int), .slice ca cs.length cc] w fun e w' => e = .returned (.int .i64 (cellsE W H s (K : Int) cs cs.length)) ∧ Ext w w' := by
  have H1 := hide (fun w' => r04Check_any W H a n c w')
  rw [he] at H1
  have hq := fun w => eq_size W H W H w
  rw [show (W == W && H == H) = true by simp] at hq
  have H2 := hide (fun w' => rRight_any W H s w')
  rw [hr] at H2
  have HR := hide hr
  have b0 := cnt_bd hr
  have hbl := boxesAll_len hr
  have hba := boxesAll_at hr K hid
  have bb := box_bd hr (id := (K : Int)) (by omega) hid
  have HIS := hide (fun q => inId_has hr ⟨Int.natCast_nonneg K, hid⟩ q)
  have HBA := hide hba
  obtain ⟨N, hN⟩ : ∃ N : Nat, (boxesAll W H s).length = N := ⟨_, rfl⟩
  have hN' : (boxesR W H s (acr H s).toNat).length = N := hN
  have nb : N ≤ 65536 := by omega
  have jK : (K : Int) < (N : Int) := by omega
  have jK' : K < N := by omega
  have HC := hide hc
  have HIN := hide hi
  have HN' := hide hN'
  have hbp : boxP W H s (K : Int) = ((boxX W s K, boxY W s K), (boxW W s K, boxH W H s K)) := rfl
  rw [hbp] at HBA
  obtain ⟨m, hm⟩ : ∃ z, cs.length = z := ⟨_, rfl⟩
  have HM := hide hm
  rw [hm] at hl ⊢
  have HB0 := hide (show 0 ≤ boxX W s (K : Int) ∧ 0 ≤ boxY W s (K : Int) from ⟨by omega, by omega⟩)
  clear hbl hid b0 he hr hba bb hc hi hm hN hbp
  generalize boxX W s (K : Int) = X at *
  generalize boxY W s (K : Int) = Y at *
  generalize boxW W s (K : Int) = BW at *
  generalize boxH W H s (K : Int) = BH at *
  go_enter Try.func26, Try.ntmps26
  go_wp2_with (first
    | (go_at_call 79; refine (H1.out _).mono ?_; rintro e w1 ⟨rfl, hb1⟩; obtain ⟨hc1, hf1⟩ := hb1.cells; have hz1 := hb1.size; (repeat (first | rw [World.size_alloc] at hz1 | rw [World.size_drew] at hz1)); have z1_0 : w.heap.size < w1.heap.size := (by omega); have z1_1 : w.heap.size + 1 < w1.heap.size := (by omega))
    | (go_at_call 60; refine (H2.out _).mono ?_; rintro e w2 ⟨rfl, hb2⟩; obtain ⟨hc2, hf2⟩ := hb2.cells; have hz2 := hb2.size; (repeat (first | rw [World.size_alloc] at hz2 | rw [World.size_drew] at hz2)); have z2_0 : w.heap.size < w2.heap.size := (by omega); have z2_1 : w.heap.size + 1 < w2.heap.size := (by omega))
    | (go_at_call 28; refine (rBoxes_any _ _ _ _ HR.out).mono ?_; rintro e w3 ⟨v3, rfl, hb3, hv3⟩; obtain ⟨g, co, rfl, hg1, hg2⟩ := hv3.pos (by omega); have HV := hide hv3; clear hv3; obtain ⟨hc3, hf3⟩ := hb3.cells; have hz3 := hb3.size; (repeat (first | rw [World.size_alloc] at hz3 | rw [World.size_drew] at hz3)); have z3_0 : w.heap.size < w3.heap.size := (by omega); have z3_1 : w.heap.size + 1 < w3.heap.size := (by omega)))
  have hv := HV.out.reads.pair_at HBA.out
  rw [HN'.out] at *
  have HX3 := hide (show Ext w w3 from (by (with_reducible (repeat' (first | exact Ext.refl _ | assumption | refine Ext.drew ?_ | refine Ext.drewN ?_ _ | refine Ext.alloc ?_ _ | refine Ext.setCell ?_ ?_ _ | refine Ext.trans ?_ (by assumption)))); all_goals (first | (simp; done) | (simp; omega))))
  go_loopw [13] (fun iv wr => ∃ k : Nat, k ≤ m ∧ iv = .int .i64 k ∧ cellsE W H s (K : Int) cs k = 0 ∧ Ext w3 wr) (fun iv _ => m - (intOf iv).toNat)
  case atStart => exact ⟨0, Nat.zero_le _, rfl, rfl, Ext.refl _⟩
  case round =>
    obtain ⟨k, hk, rfl, hce, hx⟩ := hrel
    have HCE := hide hce
    have XR := hide hx
    have hzr := hx.size
    have g0 := (hx.cell (p := ⟨g, K * 4, none⟩) hg2).trans hv.1
    have g1 := (hx.cell (p := ⟨g, K * 4 + 1, none⟩) hg2).trans hv.2.1
    have g2 := (hx.cell (p := ⟨g, K * 4 + 2, none⟩) hg2).trans hv.2.2.1
    have g3 := (hx.cell (p := ⟨g, K * 4 + 3, none⟩) hg2).trans hv.2.2.2
    have gz : g < wr.heap.size := Nat.lt_of_lt_of_le hg2 hzr
    clear hce hx
    by_cases hlt : k < m
    · have hkl : k < cs.length := by rw [HM.out]; exact hlt
      obtain ⟨b, off, rfl, hb, hcc⟩ := HC.out (by omega)
      have hxw := HX3.out.trans XR.out
      have hq0 := hcc k hkl
      have hgd : cs.getD k (0, 0) = cs[k] := by simp [List.getD_eq_getElem?_getD, hkl]
      have hini := HIN.out cs[k] (List.getElem_mem hkl)
      obtain ⟨⟨qx, qy⟩, hqe⟩ : ∃ q, cs[k] = q := ⟨_, rfl⟩
      rw [hqe] at hq0 hgd hini
      have HGD := hide hgd
      have HHAS := hide (fun w' => rHas_any X Y BW BH qx qy w' HB0.out.1 HB0.out.2 hini.1 hini.2)
      have d0 := (hxw.cell (p := ⟨b, off + k * 2, none⟩) hb).trans hq0.1
      have d1 := (hxw.cell (p := ⟨b, off + k * 2 + 1, none⟩) hb).trans hq0.2
      have zb : b < wr.heap.size := Nat.lt_of_lt_of_le hb hxw.size
      have HCC := hide (fun k' (h : k' < cs.length) => hcc k' h)
      have HB := hide hb
      have HXW := hide hxw
      have jk : (k : Int) < (m : Int) := by omega
      have END : Hid (∀ e : Int, cellBad W H s (K : Int) cs k = e → e ≠ 0 → cellsE W H s (K : Int) cs m = e) := hide (fun e h1 h2 => by rw [cellsE_at HCE.out (by rw [h1]; exact h2) hlt, h1])
      have HIT : Hid (inId W H s (K : Int) (cs.getD k (0, 0)) = hasB X Y BW BH qx qy) := hide (by rw [HIS.out, hgd])
      clear hkl hcc hq0 hgd hqe hxw hb hini
      cases hhb : hasB X Y BW BH qx qy
      · rw [hhb] at HHAS HIT
        have HE := hide (END.out 10 (by unfold cellBad; rw [if_pos HIT.out]) (by decide))
        clear hhb END
        go_wp2_with fail
        refine seqH_start (S := (fun W => (∀ b o, b < wr.heap.size → W.cell? ⟨b, o, none⟩ = wr.cell? ⟨b, o, none⟩) ∧ Ext wr W)) [(0, true), (1, true), (2, true), (3, true), (4, true), (5, true), (6, true), (7, true), (8, false), (9, true)] (by kernel_rfl) (by kernel_rfl) (by kernel_rfl) (by decide) (fun _ _ d _ _ h => by cases d <;> exact h) (by first | with_reducible exact pr_start _ | exact pr_of (by (with_reducible (repeat' (first | exact Ext.refl _ | assumption | refine Ext.drew ?_ | refine Ext.drewN ?_ _ | refine Ext.alloc ?_ _ | refine Ext.setCell ?_ ?_ _ | refine Ext.trans ?_ (by assumption)))); all_goals (first | (simp; done) | (simp; omega)))) (fun hHeld => ?_)
        iterate 8 (apply SeqH.free; (· (simp only [List.getElem?_toArray, List.getElem?_cons_succ, List.getElem?_cons_zero]; rfl)); (· first | exact Or.inr ⟨by rfl, rfl⟩ | (refine Or.inl ⟨by rfl, ?_⟩; intro w hSw; (try dsimp only at hSw); go_simp; try with_reducible rfl)); try simp only [Act.put, List.setIfInBounds_toArray, List.set_cons_zero, List.set_cons_succ])
        (apply SeqH.step; (· (simp only [List.getElem?_toArray, List.getElem?_cons_succ, List.getElem?_cons_zero]; rfl)); intro K hK; go_simp; refine (HHAS.out _).mono ?_; rintro e w5 ⟨rfl, hb5⟩; go_wp2_with fail; refine hK.out _ _ (pr_of (by (with_reducible (repeat' (first | exact Ext.refl _ | assumption | refine Ext.drew ?_ | refine Ext.drewN ?_ _ | refine Ext.alloc ?_ _ | refine Ext.setCell ?_ ?_ _ | refine Ext.trans ?_ (by assumption)))); all_goals (first | (simp; done) | (simp; omega)))) (fun hHeld => ?_); clear hK K; try simp only [Act.put, List.setIfInBounds_toArray, List.set_cons_zero, List.set_cons_succ])
        iterate 1 (apply SeqH.free; (· (simp only [List.getElem?_toArray, List.getElem?_cons_succ, List.getElem?_cons_zero]; rfl)); (· first | exact Or.inr ⟨by rfl, rfl⟩ | (refine Or.inl ⟨by rfl, ?_⟩; intro w hSw; (try dsimp only at hSw); go_simp; try with_reducible rfl)); try simp only [Act.put, List.setIfInBounds_toArray, List.set_cons_zero, List.set_cons_succ])
        refine SeqH.done ?_
        have hx5 := hHeld.2
        clear hHeld hb5
        go_wp2_with fail
        go_ret
        exact ⟨by rw [HE.out]; rfl, (HX3.out.trans XR.out).trans hx5⟩
      · rw [hhb] at HHAS HIT
        clear hhb
        go_wp2_with fail
        refine seqH_start (S := (fun W => (∀ b o, b < wr.heap.size → W.cell? ⟨b, o, none⟩ = wr.cell? ⟨b, o, none⟩) ∧ Ext wr W)) [(0, true), (1, true), (2, true), (3, true), (4, true), (5, true), (6, true), (7, true), (8, false), (9, true)] (by kernel_rfl) (by kernel_rfl) (by kernel_rfl) (by decide) (fun _ _ d _ _ h => by cases d <;> exact h) (by first | with_reducible exact pr_start _ | exact pr_of (by (with_reducible (repeat' (first | exact Ext.refl _ | assumption | refine Ext.drew ?_ | refine Ext.drewN ?_ _ | refine Ext.alloc ?_ _ | refine Ext.setCell ?_ ?_ _ | refine Ext.trans ?_ (by assumption)))); all_goals (first | (simp; done) | (simp; omega)))) (fun hHeld => ?_)
        iterate 8 (apply SeqH.free; (· (simp only [List.getElem?_toArray, List.getElem?_cons_succ, List.getElem?_cons_zero]; rfl)); (· first | exact Or.inr ⟨by rfl, rfl⟩ | (refine Or.inl ⟨by rfl, ?_⟩; intro w hSw; (try dsimp only at hSw); go_simp; try with_reducible rfl)); try simp only [Act.put, List.setIfInBounds_toArray, List.set_cons_zero, List.set_cons_succ])
        (apply SeqH.step; (· (simp only [List.getElem?_toArray, List.getElem?_cons_succ, List.getElem?_cons_zero]; rfl)); intro K hK; go_simp; refine (HHAS.out _).mono ?_; rintro e w5 ⟨rfl, hb5⟩; go_wp2_with fail; refine hK.out _ _ (pr_of (by (with_reducible (repeat' (first | exact Ext.refl _ | assumption | refine Ext.drew ?_ | refine Ext.drewN ?_ _ | refine Ext.alloc ?_ _ | refine Ext.setCell ?_ ?_ _ | refine Ext.trans ?_ (by assumption)))); all_goals (first | (simp; done) | (simp; omega)))) (fun hHeld => ?_); clear hK K; try simp only [Act.put, List.setIfInBounds_toArray, List.set_cons_zero, List.set_cons_succ])
        iterate 1 (apply SeqH.free; (· (simp only [List.getElem?_toArray, List.getElem?_cons_succ, List.getElem?_cons_zero]; rfl)); (· first | exact Or.inr ⟨by rfl, rfl⟩ | (refine Or.inl ⟨by rfl, ?_⟩; intro w hSw; (try dsimp only at hSw); go_simp; try with_reducible rfl)); try simp only [Act.put, List.setIfInBounds_toArray, List.set_cons_zero, List.set_cons_succ])
        refine SeqH.done ?_
        have hx5 := hHeld.2
        clear hHeld hb5
        have HX5 := hide hx5
        by_cases hk0 : k = 0
        · subst hk0
          have HN := hide (cellsE_next HCE.out (by unfold cellBad; rw [if_neg (by rw [HIT.out]; simp), if_neg (fun h => absurd h.1 (Nat.lt_irrefl 0))]))
          clear END hx5
          go_wp2_with fail
          go_quiet (fail)
          go_wp2_with fail
          go_roundw
          case rel => exact ⟨1, by omega, by go_num, HN.out, XR.out.trans (HX5.out.trans (by (with_reducible (repeat' (first | exact Ext.refl _ | assumption | refine Ext.drew ?_ | refine Ext.drewN ?_ _ | refine Ext.alloc ?_ _ | refine Ext.setCell ?_ ?_ _ | refine Ext.trans ?_ (by assumption)))); all_goals (first | (simp; done) | (simp; omega))))⟩
          case measure => simp [intOf]; omega
        · obtain ⟨k', rfl⟩ : ∃ k', k = k' + 1 := ⟨k - 1, by omega⟩
          have hkl : k' < cs.length := by rw [HM.out]; omega
          have hq1 := HCC.out k' hkl
          have hgd1 : cs.getD k' (0, 0) = cs[k'] := by simp [List.getD_eq_getElem?_getD, hkl]
          obtain ⟨⟨px, py⟩, hpe⟩ : ∃ q, cs[k'] = q := ⟨_, rfl⟩
          rw [hpe] at hq1 hgd1
          have hxw5 := HXW.out.trans hx5
          have e0 := (hxw5.cell (p := ⟨b, off + k' * 2, none⟩) HB.out).trans hq1.1
          have e1 := (hxw5.cell (p := ⟨b, off + k' * 2 + 1, none⟩) HB.out).trans hq1.2
          have f0 := (hx5.cell (p := ⟨b, off + (k' + 1) * 2, none⟩) zb).trans d0
          have f1 := (hx5.cell (p := ⟨b, off + (k' + 1) * 2 + 1, none⟩) zb).trans d1
          have zb5 : b < w5.heap.size := Nat.lt_of_lt_of_le HB.out hxw5.size
          have HBD : Hid (cellBad W H s (K : Int) cs (k' + 1) = if riseB (px, py) (qx, qy) = false then 11 else 0) := hide (by
            unfold cellBad
            rw [if_neg (by rw [HIT.out]; simp), HGD.out, Nat.add_sub_cancel, hgd1]
            by_cases h : riseB (px, py) (qx, qy) = false
            · rw [if_pos ⟨Nat.succ_pos _, h⟩, if_pos h]
            · rw [if_neg (fun k => h k.2), if_neg h])
          have jk' : (k' : Int) < (m : Int) := by omega
          have s1 : IntKind.i64.wrap ((k' : Int) + 1 - 1) = (k' : Int) := by rw [Int.add_sub_cancel]; exact IntWalk.i64_in _ (by omega)
          have s3 : IntKind.i64.wrap (k' : Int) = (k' : Int) := IntWalk.i64_in _ (by omega)
          have s2 : decide ((0 : Int) < (k' : Int) + 1) = true := by simp <;> omega
          clear hq1 hgd1 hpe hkl hxw5 hk0 d0 d1 zb g0 g1 g2 g3 gz
          have cmp : (qy < py) ∨ (¬ qy < py ∧ ¬ qy = py) ∨ (¬ qy < py ∧ qy = py ∧ qx ≤ px) ∨ (¬ qy < py ∧ qy = py ∧ ¬ qx ≤ px) := by omega
          rcases cmp with h | ⟨h, h'⟩ | ⟨h, rfl, h''⟩ | ⟨h, rfl, h''⟩
          · have v1 : decide (qy < py) = true := by simpa using h
            have HE := hide (END.out 11 (by rw [HBD.out, if_pos (by simp only [riseB, Bool.or_eq_false_iff, Bool.and_eq_false_iff, decide_eq_false_iff_not]; omega)]) (by decide))
            clear END HBD h hx5
            go_wp2_with fail
            go_quiet (fail)
            go_wp2_with fail
            go_ret
            exact ⟨by rw [HE.out]; rfl, (HX3.out.trans XR.out).trans (HX5.out.trans (by (with_reducible (repeat' (first | exact Ext.refl _ | assumption | refine Ext.drew ?_ | refine Ext.drewN ?_ _ | refine Ext.alloc ?_ _ | refine Ext.setCell ?_ ?_ _ | refine Ext.trans ?_ (by assumption)))); all_goals (first | (simp; done) | (simp; omega))))⟩
          · have v1 : decide (qy < py) = false := by simpa using h
            have v2 : (qy == py) = false := by simpa using h'
            have HN := hide (cellsE_next HCE.out (by rw [HBD.out, if_neg (by simp only [riseB, Bool.or_eq_false_iff, Bool.and_eq_false_iff, decide_eq_false_iff_not]; omega)]))
            clear END HBD h h' hx5
            go_wp2_with fail
            go_quiet (fail)
            go_wp2_with fail
            go_roundw
            case rel => exact ⟨k' + 1 + 1, by omega, by go_num, HN.out, XR.out.trans (HX5.out.trans (by (with_reducible (repeat' (first | exact Ext.refl _ | assumption | refine Ext.drew ?_ | refine Ext.drewN ?_ _ | refine Ext.alloc ?_ _ | refine Ext.setCell ?_ ?_ _ | refine Ext.trans ?_ (by assumption)))); all_goals (first | (simp; done) | (simp; omega))))⟩
            case measure => simp [intOf]; omega
          · have v3 : decide (qx ≤ px) = true := by simpa using h''
            have HE := hide (END.out 11 (by rw [HBD.out, if_pos (by simp only [riseB, Bool.or_eq_false_iff, Bool.and_eq_false_iff, decide_eq_false_iff_not]; omega)]) (by decide))
            clear END HBD h h'' hx5
            go_wp2_with fail
            go_quiet (fail)
            go_wp2_with fail
            go_ret
            exact ⟨by rw [HE.out]; rfl, (HX3.out.trans XR.out).trans (HX5.out.trans (by (with_reducible (repeat' (first | exact Ext.refl _ | assumption | refine Ext.drew ?_ | refine Ext.drewN ?_ _ | refine Ext.alloc ?_ _ | refine Ext.setCell ?_ ?_ _ | refine Ext.trans ?_ (by assumption)))); all_goals (first | (simp; done) | (simp; omega))))⟩
          · have v3 : decide (qx ≤ px) = false := by simpa using h''
            have hpx : px < qx := by omega
            have HN := hide (cellsE_next HCE.out (by rw [HBD.out, if_neg (by simp [riseB, hpx])]))
            clear hpx
            clear END HBD h h'' hx5
            go_wp2_with fail
            go_quiet (fail)
            go_wp2_with fail
            go_roundw
            case rel => exact ⟨k' + 1 + 1, by omega, by go_num, HN.out, XR.out.trans (HX5.out.trans (by (with_reducible (repeat' (first | exact Ext.refl _ | assumption | refine Ext.drew ?_ | refine Ext.drewN ?_ _ | refine Ext.alloc ?_ _ | refine Ext.setCell ?_ ?_ _ | refine Ext.trans ?_ (by assumption)))); all_goals (first | (simp; done) | (simp; omega))))⟩
            case measure => simp [intOf]; omega
    · obtain rfl : k = m := by omega
      have HE := hide HCE.out
      have hxx := HX3.out.trans XR.out
      go_wp2_with fail
      go_ret
      exact ⟨by rw [HE.out]; rfl, hxx⟩

theorem r13May_any {w : World} (W H : Int) (a : Option Addr) (n c : Nat) (PW PH s id : Int) (ca : Option Addr) (cs : List Cell) (cc : Nat) (hc : RowC w ca cs) (hl : cs.length ≤ 1000000) (hi : ∀ p ∈ cs, InI p.1 ∧ InI p.2) :
    Calls Try.prog 26 #[.agg #[.int .i64 W, .int .i64 H, .slice a n c], .agg #[.int .i64 PW, .int .i64 PH], .int .i64 s, .int .i64 id, .slice ca cs.length cc] w fun e w' => e = .returned (.int .i64 (innerE W H n PW PH s id cs)) ∧ Ext w w' := by
  unfold innerE
  by_cases h1 : checkE W H n = 0
  · rw [if_pos h1]
    by_cases h2 : PW = W ∧ PH = H
    · obtain ⟨rfl, rfl⟩ := h2
      rw [if_pos ⟨rfl, rfl⟩]
      cases h3 : rightB PW PH s
      · rw [if_neg (by simp)]
        exact r13May_side PW PH a n c s id ca _ cc h1 h3
      · rw [if_pos rfl]
        cases h4 : bad PW PH s id
        · rw [if_neg (by simp)]
          obtain ⟨i0, i1⟩ := bad_false_iff.1 h4
          obtain ⟨K, rfl⟩ : ∃ K : Nat, id = (K : Int) := ⟨id.toNat, by omega⟩
          exact r13May_cells PW PH a n c s K ca cs cc h1 h3 i1 hc hl hi
        · rw [if_pos rfl]
          exact r13May_id PW PH a n c s id ca _ cc h1 h3 (fun h => by rw [bad_false_iff.2 h] at h4; cases h4)
    · rw [if_neg h2]
      exact r13May_size W H a n c PW PH s id ca _ cc h1 h2
  · rw [if_neg h1]
    exact r13May_field W H a n c PW PH s id ca _ cc h1
end Go.Proofs.Ytifbmapianddcaa
