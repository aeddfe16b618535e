/- The reference's Of: all gates. -/
import Derived.Test.YtkioohhjjdlhiaaGreatSortI
import Derived.Test.YtkioohhjjdlhiaaGreatRefG
import Derived.Test.YtkioohhjjdlhiaaGreatTurnP
import Derived.Deep.CutBlock
set_option linter.all false
set_option linter.unusedVariables false
set_option linter.unusedSimpArgs false
namespace Go.Proofs.YtkioohhjjdlhiaaGreat
open Go.RowKit

set_option maxRecDepth 100000 in
theorem r12Between_zero (W H : Int) (ad : Option Addr) (n c : Nat) (a : Option Addr) (cc : Nat) (w : World) :
  Calls Tryz.prog 117 #[.agg #[.int .i64 W, .int .i64 H, .slice ad n c], .slice a 0 cc] w (RetGates12 w []) := by
 go_enter Tryz.func117, Tryz.ntmps117
 go_wp2
 go_loopw [5, 6] (fun o i wr => i = .int .i64 0 ∧ Ext w wr ∧ Own pairE wr w.heap.size 179 o []) (fun _ _ _ => 0)
 case atStart => exact ⟨rfl, (by (with_reducible (repeat' (first | exact z_r _ | assumption | refine z_d ?_ | refine z_n ?_ _ | refine z_a ?_ _ | refine z_s ?_ ?_ _ | refine z_t ?_ (by assumption)))); all_goals (simp <;> omega)), (Own.lit0 pairE (w.alloc (.cells #[.int .i64 W, .int .i64 H, .slice ad n c] 26)) w.heap.size _ _ (by simp) (by omega))⟩
 case round =>
  obtain ⟨rfl, hx, ho⟩ := hrel
  have HX := hide hx
  have HO := hide ho
  obtain ⟨ao, co, rfl⟩ := ho.slice
  clear hx ho
  go_wp2
  go_ret
  exact ⟨_, rfl, HX.out, HO.out⟩

theorem wantL_in {W H s x y : Int} (hr : rightB W H s = true) (h0 : 0 ≤ x) (hxy : x < y) (h1 : y < cnt W H s) (k : Nat) (p : Cell × Cell) (hk : (wantL W H s x y)[k]? = some p) : InMap W H p := by
 unfold wantL at hk
 rw [show min x y = x by omega, show max x y = y by omega] at hk
 by_cases hn : hasI (besideL W H s x) y = true
 ·rw [if_pos hn] at hk
  exact border_in hr h0 hxy h1 hn k p hk
 ·rw [if_neg hn] at hk
  simp at hk
theorem wantL_len {W H s x y : Int} (hr : rightB W H s = true) (h0 : 0 ≤ x) (hxy : x < y) (h1 : y < cnt W H s) : (wantL W H s x y).length ≤ 16 := by
 unfold wantL
 rw [show min x y = x by omega, show max x y = y by omega]
 by_cases hn : hasI (besideL W H s x) y = true
 ·rw [if_pos hn]; exact borderL_len hr h0 (by omega)
 ·rw [if_neg hn]; simp
theorem btwR_len {l : List Int} {W H s x y : Int} (hr : rightB W H s = true) (h0 : 0 ≤ x) (hxy : x < y) (h1 : y < cnt W H s) : (btwR l W H s x y).length ≤ 16 := by
 unfold btwR
 have h := wantL_len (W := W) (H := H) (s := s) hr h0 hxy h1
 exact Nat.le_trans (pick_len _ _ _) h

/-- The reference's Between, of what its Border told. -/
theorem r12Between_of (W H : Int) (ad : Option Addr) (l : List Int) (c : Nat) (s x y : Int) (base : Nat) (v : Value) (w : World) (hm : mayB W H = true) (hl : (l.length : Int) = W * H) (hr : Row16 w ad l) (hu : U16s l) (ht : rightB W H s = true) (h0 : 0 ≤ x) (hxy : x < y) (h1 : y < cnt W H s)
  (hv : Own pairE w base 264 v (wantL W H s x y)) :
  Calls Tryz.prog 117 #[.agg #[.int .i64 W, .int .i64 H, .slice ad l.length c], v] w (RetGates12 w (btwR l W H s x y)) := by
 have hln := wantL_len (W := W) (H := H) (s := s) ht h0 hxy h1
 by_cases hp : 0 < (wantL W H s x y).length
 ·obtain ⟨g, cc, rfl, _, hg⟩ := hv.pos hp
  exact r12Between_any W H ad l c g cc (wantL W H s x y) w hm hl hr hu (by omega) hg hv.reads.pairs.2 (wantL_in ht h0 hxy h1)
 ·have hz : wantL W H s x y = [] := List.eq_nil_of_length_eq_zero (by omega)
  obtain ⟨a, cc, rfl⟩ := hv.slice
  have e : btwR l W H s x y = [] := by unfold btwR; rw [hz]; rfl
  rw [e, hz]
  exact r12Between_zero W H ad l.length c a cc w

theorem refRow_succ (l : List Int) (W H s : Int) (a m : Nat) : refRow l W H s a (m + 1) = refRow l W H s a m ++ btwR l W H s (a : Int) ((a + 1 + m : Nat) : Int) := by
 unfold refRow
 rw [List.range'_concat, List.flatMap_append]
 simp
theorem refRow_mono (l : List Int) (W H s : Int) (a m k : Nat) : (refRow l W H s a m).length ≤ (refRow l W H s a (m + k)).length := by
 induction k with
 | zero => exact Nat.le_refl _
 | succ k ih => rw [← Nat.add_assoc, refRow_succ, List.length_append]; omega
theorem refRow_len {l : List Int} {W H s : Int} (hr : rightB W H s = true) {N a m : Nat} (hN : cnt W H s = (N : Int)) (ha : a < N) (hm : m ≤ N - (a + 1)) : (refRow l W H s a m).length ≤ 64 := by
 have h1 := refRow_mono l W H s a m (N - (a + 1) - m)
 rw [show m + (N - (a + 1) - m) = N - (a + 1) by omega, refRow_eq hr hN ha] at h1
 exact Nat.le_trans h1 (rowG_len hr (by omega) (by omega))
theorem refAll_succ (l : List Int) (W H s : Int) (N n : Nat) : refAll l W H s N (n + 1) = refAll l W H s N n ++ refRow l W H s n (N - (n + 1)) := by
 unfold refAll; rw [List.range_succ, List.flatMap_append]; simp
theorem refAll_len {l : List Int} {W H s : Int} (hr : rightB W H s = true) {N : Nat} (hN : cnt W H s = (N : Int)) : ∀ n, n ≤ N → (refAll l W H s N n).length ≤ n * 64
 | 0, _ => by simp [refAll]
 | n + 1, h => by
  rw [refAll_succ, List.length_append]
  have h1 := refAll_len hr hN (l := l) n (by omega)
  have h2 := refRow_len (l := l) hr hN (show n < N by omega) (Nat.le_refl _)
  omega

set_option maxRecDepth 100000 in
set_option maxHeartbeats 1500000 in
theorem r12Of_any (W H : Int) (ad : Option Addr) (l : List Int) (c : Nat) (s : Int) (N : Nat) (w : World) (hm : mayB W H = true) (hl : (l.length : Int) = W * H) (hr : Row16 w ad l) (hu : U16s l) (ht : rightB W H s = true) (hN : (boxesAll W H s).length = N) :
  Calls Tryz.prog 66 #[.agg #[.int .i64 W, .int .i64 H, .slice ad l.length c], .int .i64 s] w (RetGates12 w (refAll l W H s N N)) := by
 have HR := hide hr
 have HU := hide hu
 have b0 := cnt_bd ht
 have HC := hide (show cnt W H s = (N : Int) by rw [← boxesAll_len ht, hN])
 have hN1 : 1 ≤ N := by have := HC.out; omega
 have hN2 : N ≤ 65536 := by have := HC.out; omega
 have HN := hide hN
 have HL := hide hl
 clear hr hu b0 hN hl
 go_enter Tryz.func66, Tryz.ntmps66
 go_wp2_with fail
 have BF : Hid (Blk (w.alloc (.cells #[.int .i64 W, .int .i64 H, .slice ad l.length c] 26)) w.heap.size 26 #[.int .i64 W, .int .i64 H, .slice ad l.length c]) := hide (Blk.new_ rfl)
 have X1 : Hid (Ext w (w.alloc (.cells #[.int .i64 W, .int .i64 H, .slice ad l.length c] 26))) := hide (by (with_reducible (repeat' (first | exact z_r _ | assumption | refine z_d ?_ | refine z_n ?_ _ | refine z_a ?_ _ | refine z_s ?_ ?_ _ | refine z_t ?_ (by assumption)))); all_goals (simp <;> omega))
 obtain ⟨w1, hw1⟩ : ∃ w1, w.alloc (.cells #[.int .i64 W, .int .i64 H, .slice ad l.length c] 26) = w1 := ⟨_, rfl⟩
 obtain ⟨f, hf⟩ : ∃ f, w.heap.size = f := ⟨_, rfl⟩
 rw [hw1] at BF X1 ⊢
 rw [hf] at BF ⊢
 clear hw1 hf
 refine (rBoxes_any _ _ _ _ ht).mono ?_
 rintro e w2 ⟨v2, rfl, x2, o2⟩
 have o2' : Own pairE w2 w1.heap.size 117 v2 (boxesAll W H s) := o2
 obtain ⟨g, cg, rfl, hg1, hg2⟩ := o2'.pos (by rw [HN.out]; omega)
 rw [HN.out] at o2' ⊢
 have O2 := hide o2'
 have X2 := hide (show Ext w1 w2 from x2)
 have BF2 := hide (BF.out.ext x2)
 clear o2 o2' x2
 go_wp2_with fail
 have OB : Hid (Own pairE (w2.alloc (.cells #[] 179)) w2.heap.size 179 (.slice (some ⟨w2.heap.size, 0, none⟩) 0 0) []) := hide (Own.lit0 pairE w2 _ _ _ rfl (Nat.le_refl _))
 have XB : Hid (Ext w2 (w2.alloc (.cells #[] 179))) := hide ((Ext.refl _).alloc _)
 go_loopw [6, 7] (fun o i wr => ∃ a : Nat, i = .int .i64 (a : Int) ∧ a ≤ N ∧ Ext w2 wr ∧ Own pairE wr w2.heap.size 179 o (refAll l W H s N a)) (fun _ i _ => N - (intOf i).toNat)
 case atStart => exact ⟨0, rfl, Nat.zero_le _, XB.out, by simpa [refAll] using OB.out⟩
 case round =>
  obtain ⟨a, rfl, ha, hx, ho⟩ := hrel
  have HX := hide hx
  have HO := hide ho
  clear hx ho XB OB
  by_cases hlt : a < N
  ·have HRS := hide (refAll_succ l W H s N a)
   have HAl := hide (refAll_len (l := l) ht HC.out a ha)
   go_wp2_with fail
   go_loopw [6, 8] (fun o i wy => ∃ m : Nat, i = .int .i64 ((a + 1 + m : Nat) : Int) ∧ a + 1 + m ≤ N ∧ Ext w2 wy ∧ Own pairE wy w2.heap.size 179 o (refAll l W H s N a ++ refRow l W H s a m)) (fun _ i _ => N - (intOf i).toNat)
   case atStart => exact ⟨0, by go_num, by omega, HX.out, by simpa [refRow] using HO.out⟩
   case round =>
    obtain ⟨m, rfl, hm', hx, ho⟩ := hrel
    have HXm := hide hx
    have HOm := hide ho
    obtain ⟨b, hb⟩ : ∃ b, a + 1 + m = b := ⟨_, rfl⟩
    rw [hb] at hm' ⊢
    have HB := hide hb
    have hab : a < b := by omega
    have BFr := hide (BF2.out.ext hx)
    have q0 := BFr.out.at 0 rfl; have q1 := BFr.out.at 1 rfl; have q2 := BFr.out.at 2 rfl; have qz := BFr.out.lt
    clear hx ho hb
    by_cases hltb : b < N
    ·have hbc : (b : Int) < cnt W H s := by rw [HC.out]; omega
     have HRm := hide (show refRow l W H s a (m + 1) = refRow l W H s a m ++ btwR l W H s (a : Int) (b : Int) by rw [refRow_succ, HB.out])
     have HRl := hide (refRow_len (l := l) ht HC.out hlt (m := m) (by have := HB.out; omega))
     have HBl := hide (btwR_len (l := l) ht (x := (a : Int)) (y := (b : Int)) (by omega) (by omega) hbc)
     have HBd := hide (fun (w' : World) (x : Ext wr w') => rBorder_law g cg N W H s a b w' ht HN.out hlt hltb (O2.out.reads.ext (HXm.out.trans x)))
     have HBt := hide (fun (w' : World) (x : Ext wr w') (base : Nat) (v : Value) (hv : Own pairE w' base 264 v (wantL W H s (a : Int) (b : Int))) => r12Between_of W H ad l c s (a : Int) (b : Int) base v w' hm HL.out (HR.out.ext (((X1.out.trans X2.out).trans HXm.out).trans x)) HU.out ht (by omega) (by omega) hbc hv)
     obtain ⟨ao, co, rfl⟩ := HOm.out.slice
     have hzm := HXm.out.size
     have zg : g < wr.heap.size := by have := X2.out.size; omega
     have S0 : Hid (CellsAt [(⟨f, 0, none⟩, .int .i64 W), (⟨f, 1, none⟩, .int .i64 H), (⟨f, 2, none⟩, .slice ad l.length c)] wr) := hide ⟨q0, q1, q2, trivial⟩
     have HRlen : Hid ((refAll l W H s N a ++ refRow l W H s a m).length ≤ 5000000) := hide (by have := HAl.out; have := HRl.out; rw [List.length_append]; omega)
     have hfw : f < w2.heap.size := BF2.out.lt
     generalize hRR : refAll l W H s N a ++ refRow l W H s a m = R at *
     have HRR := hide hRR
     generalize hQQ : btwR l W H s (a : Int) (b : Int) = Q at *
     have HQQ := hide hQQ
     generalize hWW : wantL W H s (a : Int) (b : Int) = B at *
     clear q0 q1 q2 hRR hQQ hWW BFr
     go_wp2_with fail
     refine seqH_start (S := (CellsAt [(⟨f, 0, none⟩, .int .i64 W), (⟨f, 1, none⟩, .int .i64 H), (⟨f, 2, none⟩, .slice ad l.length c)])) [(0, true), (1, true), (2, true), (3, true), (4, true), (5, false), (6, false), (7, false), (8, true)] (by kernel_rfl) (by kernel_rfl) (by kernel_rfl) (by decide) (fun _ _ d _ _ h => by cases d <;> exact h) (CellsAt.ext ((Ext.refl _).drew) S0.out) (fun hHeld => ?_)
     iterate 5 (apply SeqH.free; (· (simp only [z_0, z_1, z_2]; rfl)); (· first | exact Or.inr ⟨by rfl, rfl⟩ | (refine Or.inl ⟨by rfl, ?_⟩; intro w hSw; (try dsimp only at hSw); simp only [CellsAt] at hSw; go_simp; try with_reducible rfl)); try simp only [Act.put, z_3, z_4, z_5])
     (apply SeqH.step; (· (simp only [z_0, z_1, z_2]; rfl)); intro K hK; go_simp; refine (HBd.out _ (by (with_reducible (repeat' (first | exact z_r _ | assumption | refine z_d ?_ | refine z_n ?_ _ | refine z_a ?_ _ | refine z_s ?_ ?_ _ | refine z_t ?_ (by assumption)))); all_goals (simp <;> omega))).mono ?_; rintro e8 w8 ⟨v8, rfl, x8, o8⟩; obtain ⟨a8, c8, rfl⟩ := o8.slice; have O8 := hide o8; have X8 := hide (show Ext wr w8 from (by (with_reducible (repeat' (first | exact z_r _ | assumption | refine z_d ?_ | refine z_n ?_ _ | refine z_a ?_ _ | refine z_s ?_ ?_ _ | refine z_t ?_ (by assumption)))); all_goals (simp <;> omega))); clear o8 x8; go_wp2_with fail; refine hK.out _ _ (CellsAt.ext X8.out S0.out) (fun hHeld => ?_); clear hK K; try simp only [Act.put, z_3, z_4, z_5])
     (apply SeqH.step; (· (simp only [z_0, z_1, z_2]; rfl)); intro K hK; go_simp; refine (HBt.out _ X8.out _ _ O8.out).mono ?_; rintro e9 w9 ⟨v9, rfl, x9, o9⟩; obtain ⟨a9, c9, rfl⟩ := o9.slice; have O9 := hide o9; have X9 := hide (X8.out.trans x9); clear o9 x9; go_wp2_with fail; refine hK.out _ _ (CellsAt.ext X9.out S0.out) (fun hHeld => ?_); clear hK K; try simp only [Act.put, z_3, z_4, z_5])
     (apply SeqH.step; (· (simp only [z_0, z_1, z_2]; rfl)); intro K hK; refine step_app_rows pairE T_gates12 (by rfl) _ _ (by rfl) w2.heap.size (.slice ao R.length co) R Q (by rfl) (HOm.out.ext X9.out) _ (by rfl) O9.out.reads (by have := HRlen.out; have := HBl.out; omega) (by have := HRlen.out; have := HBl.out; omega) (by have := X9.out.size; omega) ?_; intro v7 w7 o7 t7 l7; obtain ⟨a7, c7, rfl⟩ := o7.slice; have S7 := hide (CellsAt.touch t7 (fun p hp h => by have hl := (own_lt HOm.out h).1; simp only [List.mem_cons, List.not_mem_nil, or_false] at hp; rcases hp with rfl | rfl | rfl <;> simp only at hl <;> omega) (CellsAt.ext X9.out S0.out)); have O7 := hide o7; have X7 := hide (show Ext w2 w7 from (HXm.out.trans X9.out).of_below (t7.to_below (by have := X9.out.size; omega) (fun q hq => (own_lt HOm.out hq).1)) (Nat.le_refl _)); clear o7 t7 l7; refine hK.out _ _ (S7.out) (fun hHeld => ?_); clear hK K; try simp only [Act.put, z_3, z_4, z_5])
     iterate 1 (apply SeqH.free; (· (simp only [z_0, z_1, z_2]; rfl)); (· first | exact Or.inr ⟨by rfl, rfl⟩ | (refine Or.inl ⟨by rfl, ?_⟩; intro w hSw; (try dsimp only at hSw); simp only [CellsAt] at hSw; go_simp; try with_reducible rfl)); try simp only [Act.put, z_3, z_4, z_5])
     refine SeqH.done ?_
     clear hHeld
     go_wp2
     go_roundw
     case rel => exact ⟨m + 1, by have := HB.out; (rw [show a + 1 + (m + 1) = b + 1 by omega]; go_num), by have := HB.out; omega, X7.out, by have h := O7.out; rw [List.length_append] at h; rw [HRm.out, ← List.append_assoc, HRR.out]; exact h⟩
     case measure => simp [intOf]; omega
    ·have hmm : m = N - (a + 1) := by have := HB.out; omega
     go_wp2
     go_roundw
     case rel => exact ⟨a + 1, by go_num, by omega, HXm.out, by rw [HRS.out, ← hmm]; exact HOm.out⟩
     case measure => simp [intOf]; omega
  ·have haN : a = N := by omega
   subst haN
   obtain ⟨ao, co, rfl⟩ := HO.out.slice
   go_wp2
   go_ret
   exact ⟨_, rfl, (X1.out.trans X2.out).trans HX.out, HO.out.lower (by have := X1.out.size; have := X2.out.size; omega)⟩
end Go.Proofs.YtkioohhjjdlhiaaGreat
