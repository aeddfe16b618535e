/- The walk of redo's Gates. -/
import Derived.Test.YtkioohhjjdlhiaaGreatRedB
set_option linter.all false
set_option linter.unusedVariables false
set_option linter.unusedSimpArgs false
namespace Go.Proofs.YtkioohhjjdlhiaaGreat
open Go.RowKit

def partA (l : List Int) (W H s a : Int) (L : List Int) (j : Nat) : List (Cell × Cell) := ((L.take j).filter (fun b => decide (a < b))).flatMap (btw l W H s a)
theorem partA_skip {l : List Int} {W H s a b : Int} {L : List Int} {j : Nat} (hb : L[j]? = some b) (h : ¬ a < b) : partA l W H s a L (j + 1) = partA l W H s a L j := by
 unfold partA
 rw [List.take_add_one, hb, List.filter_append]
 simp [h]
theorem partA_take {l : List Int} {W H s a b : Int} {L : List Int} {j : Nat} (hb : L[j]? = some b) (h : a < b) : partA l W H s a L (j + 1) = partA l W H s a L j ++ btw l W H s a b := by
 unfold partA
 rw [List.take_add_one, hb, List.filter_append, List.flatMap_append]
 simp [h]
theorem partA_len {l : List Int} {W H s a : Int} (hr : rightB W H s = true) (h0 : 0 ≤ a) (ha : a < cnt W H s) {L : List Int} (hL : L.length ≤ 4) (j : Nat) : (partA l W H s a L j).length ≤ 64 := by
 have h1 := part_len (l := l) hr h0 ha ((L.take j).filter (fun b => decide (a < b))) (fun b hb => by have := (List.mem_filter.1 hb).2; simp at this; omega)
 have h2 : ((L.take j).filter (fun b => decide (a < b))).length ≤ 4 := Nat.le_trans (List.length_filter_le _ _) (by simp; omega)
 unfold partA
 omega
theorem allG_len {l : List Int} {W H s : Int} (hr : rightB W H s = true) {n : Nat} (hn : (n : Int) ≤ cnt W H s) : (allG (btw l W H s) W H s n).length ≤ n * 64 := by
 rw [allG_of hr (l := l) (fun a b _ _ _ _ => rfl)]
 exact ofG_len hr hn

def RetGates1 (w : World) (L : List (Cell × Cell)) (e : Ending) (w' : World) : Prop := ∃ v, e = .returned v ∧ Ext w w' ∧ Own pairE w' w.heap.size 85 v L

set_option maxRecDepth 100000 in
set_option maxHeartbeats 2000000 in
theorem rdGates_any {w : World} {p : Spot} {R : Nat → Prop} {W H s : Int} {l : List Int} {G : Int → Int → Option (List (Cell × Cell))} {T : List Tab} (h : Stand w p R W H s l G T) (hG : GFull W H s l G) :
  Calls Tryz.prog 35 #[.pointer (some ⟨p.b, 0, none⟩)] w (RetGates1 w (gatesA W H s l)) := by
 have ht := h.good.right
 have b0 := h.good.cnt
 obtain ⟨N, hN⟩ : ∃ N : Nat, (cnt W H s).toNat = N := ⟨_, rfl⟩
 have HN := hide (show cnt W H s = (N : Int) by omega)
 have hN1 : 1 ≤ N := by omega
 have hN2 : N ≤ 65536 := by omega
 have HE := hide (show gatesA W H s l = allG (btw l W H s) W H s N by unfold gatesA; rw [allG_of ht (l := l) (fun a b _ _ _ _ => rfl), hN])
 have HGT := hide h.gates
 have HGF := hide hG
 have B := hide h.blk
 unfold worldCells at B
 rw [HE.out]
 clear b0 hN h hG
 have b0 := B.out.at 0 rfl; have b1 := B.out.at 1 rfl; have b2 := B.out.at 2 rfl; have b3 := B.out.at 3 rfl; have b4 := B.out.at 4 rfl; have b5 := B.out.at 5 rfl; have b6 := B.out.at 6 rfl; have b7 := B.out.at 7 rfl; have bz := B.out.lt
 go_enter Tryz.func35, Tryz.ntmps35
 go_wp2_with fail
 refine (count_yes W H s _ ht).mono ?_
 rintro e w1 ⟨rfl, x1⟩
 rw [HN.out]
 have X1 := hide x1
 clear x1 b0 b1 b2 b3 b4 b5 b6 b7 bz
 go_wp2_with fail
 go_loopw [3, 16] (fun o i wr => ∃ k : Nat, k ≤ N ∧ i = .int .i64 (k : Int) ∧ Ext w wr ∧ Own pairE wr w.heap.size 85 o (allG (btw l W H s) W H s k)) (fun _ i _ => N - (intOf i).toNat)
 case atStart => exact ⟨0, Nat.zero_le _, rfl, X1.out, Own.nil _ _ _ _⟩
 case round =>
  obtain ⟨k, hk, rfl, hx, ho⟩ := hrel
  have HX := hide hx
  have HO := hide ho
  have hz := hx.size
  clear hx ho X1
  by_cases hlt : k < N
  ·have BPr := hide (B.out.ext HX.out)
   have p3 := BPr.out.at 3 rfl
   have p4 := BPr.out.at 4 rfl
   have p5 := BPr.out.at 5 rfl
   have pz := BPr.out.lt
   have hkc : (k : Int) < cnt W H s := by rw [HN.out]; omega
   have HKC := hide hkc
   have HLn := hide (allG_len (l := l) ht (n := k) (by omega))
   clear hkc
   go_wp2_with fail
   refine (Beside_yes W H s (k : Int) _ ht (by omega) HKC.out).mono ?_
   rintro e w3 ⟨v3, rfl, x3, o3⟩
   obtain ⟨a3, c3, rfl⟩ := o3.slice
   have hm4 := besideL_len W H s (k : Int)
   obtain ⟨m, hmm⟩ : ∃ m, (besideL W H s (k : Int)).length = m := ⟨_, rfl⟩
   rw [hmm] at o3 hm4 ⊢
   have HMM := hide hmm
   have O3 := hide o3
   have X3 := hide x3
   clear hmm o3 x3
   go_wp2_with fail
   refine (sortI_any O3.out (by rw [HMM.out]; omega)).mono ?_
   rintro e w4 ⟨rfl, o4, t4⟩
   have X4 := hide (X3.out.of_below (t4.to_below X3.out.size (fun q hq => (own_lt O3.out hq).1)) (Nat.le_refl _))
   have O4 := hide o4
   have HXX := hide (HX.out.trans X4.out)
   have HOO := hide (HO.out.ext X4.out)
   have HLm := hide (show (sortInt (besideL W H s (k : Int))).length = m by rw [sortInt_len, HMM.out])
   have HLi := hide (fun b (hb : b ∈ sortInt (besideL W H s (k : Int))) => beside_rng ht (by omega) HKC.out ((sortInt_perm _).mem_iff.1 hb))
   have HLh := hide (fun b (hb : b ∈ sortInt (besideL W H s (k : Int))) => (sortInt_perm _).mem_iff.1 hb)
   have HRow := hide (show rowA (btw l W H s) W H s (k : Int) = partA l W H s (k : Int) (sortInt (besideL W H s (k : Int))) m by unfold partA rowA; rw [List.take_of_length_le (by rw [HLm.out]; exact Nat.le_refl _)])
   generalize sortInt (besideL W H s (k : Int)) = L at *
   clear o4 t4 O3 X3 HO HX BPr p3 p4 p5 pz
   go_wp2_with fail
   go_loopw [3, 32] (fun o i wy => ∃ j : Nat, j ≤ m ∧ i = .int .i64 (j : Int) ∧ Ext w wy ∧ Own pairE wy w.heap.size 85 o (allG (btw l W H s) W H s k ++ partA l W H s (k : Int) L j) ∧ Own intE wy w.heap.size 3 (.slice a3 m c3) L) (fun _ i _ => m - (intOf i).toNat)
   case atStart => exact ⟨0, Nat.zero_le _, rfl, HXX.out, by simpa [partA] using HOO.out, O4.out.lower hz⟩
   case round =>
    obtain ⟨j, hj, rfl, hx, ho, hn⟩ := hrel
    have HX := hide hx
    have HO := hide ho
    have HNr := hide hn
    have hzz := hx.size
    clear hx ho hn HXX HOO O4 X4
    by_cases hltj : j < m
    ·obtain ⟨b, hb⟩ : ∃ b, L[j]? = some b := ⟨_, List.getElem?_eq_getElem (by rw [HLm.out]; exact hltj)⟩
     have hbm := List.mem_of_getElem? hb
     have hb1 := HLi.out b hbm
     have HH := hide (HLh.out b hbm)
     obtain ⟨g, rfl, cg, zg⟩ := own_int_at HNr.out hb
     by_cases hbk : (k : Int) < b
     ·have HP := hide (partA_take (l := l) (W := W) (H := H) (s := s) hb hbk)
      have HPl := hide (partA_len (l := l) ht (by omega) HKC.out (L := L) (by rw [HLm.out]; omega) j)
      have HBl := hide (btw_len (l := l) ht (x := (k : Int)) (y := b) (by omega) (by have := HKC.out; omega))
      have hgf := HGF.out (k : Int) b (by omega) hb1.2 hbk HH.out
      obtain ⟨f, mv, hf⟩ := HGT.out
      rcases hf (k : Int) b with ⟨_, e2⟩ | ⟨v, L2, e1, e2, ov, _⟩
      ·rw [hgf] at e2; cases e2
      ·obtain rfl : btw l W H s (k : Int) b = L2 := by rw [hgf] at e2; exact Option.some.inj e2
       have hlook := (mv.ext HX.out).get e1
       have OV := hide (ov.ext HX.out)
       have BPr := hide (B.out.ext HX.out)
       have p6 := BPr.out.at 6 rfl
       have pz := BPr.out.lt
       clear hb hbm hgf mv hf e1 e2 ov
       go_wp2_with (at_builtin; refine wpList_app_rows pairE T_gates rfl _ _ rfl w.heap.size _ _ (btw l W H s (k : Int) b) rfl HO.out _ rfl OV.out.reads (by have := HLn.out; have := HPl.out; have := HBl.out; rw [List.length_append]; omega) (by have := HLn.out; have := HPl.out; have := HBl.out; rw [List.length_append]; omega) (by omega) ?_; intro v9 w9 o9 t9 l9; obtain ⟨a9, c9, rfl⟩ := o9.slice; have O9 := hide o9; have T9 := hide t9; clear o9 t9 l9)
       go_roundw
       case rel =>
        refine ⟨j + 1, by omega, by go_num, HX.out.of_below (T9.out.to_below (by omega) (fun q hq => (own_lt HO.out hq).1)) (Nat.le_refl _), ?_, HNr.out.touch T9.out (fun q hq hs => own_ne_ownG HO.out HNr.out (by decide) hs hq)⟩
        have h := O9.out
        rw [List.append_assoc, ← HP.out] at h
        rw [show (allG (btw l W H s) W H s k).length + ((partA l W H s (k : Int) L j).length + (btw l W H s (k : Int) b).length) = (allG (btw l W H s) W H s k ++ partA l W H s (k : Int) L (j + 1)).length by rw [HP.out]; simp]
        exact h
       case measure => simp [intOf]; omega
     ·have HP := hide (partA_skip (l := l) (W := W) (H := H) (s := s) hb hbk)
      clear hb hbm
      go_wp2
      go_roundw
      case rel => exact ⟨j + 1, by omega, by go_num, HX.out, by rw [HP.out]; exact HO.out, HNr.out⟩
      case measure => simp [intOf]; omega
    ·obtain rfl : j = m := by omega
     go_wp2
     go_roundw
     case rel => exact ⟨k + 1, by omega, by go_num, HX.out, by rw [allG_succ, HRow.out]; exact HO.out⟩
     case measure => simp [intOf]; omega
  ·obtain rfl : k = N := by omega
   go_wp2
   obtain ⟨ao, co, rfl⟩ := HO.out.slice
   go_ret
   exact ⟨_, rfl, HX.out, HO.out⟩
end Go.Proofs.YtkioohhjjdlhiaaGreat
