/- Part of a proof: RedG RedC RedD. -/
import Derived.Test.YtaellcgglldjaaaGreatHierBacksQ17
set_option linter.all false
set_option linter.unusedVariables false
set_option linter.unusedSimpArgs false
namespace Go.Proofs.YtaellcgglldjaaaGreat
open Go.RowKit
def partA (l : List Int) (W H s a : Int) (L : List Int) (j : Nat) : List (Cell × Cell) := ((L.take j).filter (fun b => decide (a < b))).flatMap (btw l W H s a)
theorem partA_skip {l : List Int} {W H s a b : Int} {L : List Int} {j : Nat} (hb : L[j]? = some b) (h : ¬ a < b) : partA l W H s a L (j + 1) = partA l W H s a L j := by
 unfold partA
 rw [List.take_add_one, hb, List.filter_append]
 simp [h]
theorem partA_take {l : List Int} {W H s a b : Int} {L : List Int} {j : Nat} (hb : L[j]? = some b) (h : a < b) : partA l W H s a L (j + 1) = partA l W H s a L j ++ btw l W H s a b := by
 unfold partA
 rw [List.take_add_one, hb, List.filter_append, List.flatMap_append]
 simp [h]
theorem partA_len {l : List Int} {W H s a : Int} (hr : rightB W H s = true) (h0 : 0 ≤ a) (ha : a < cnt W H s) {L : List Int} (hL : L.length ≤ 4) (j : Nat) : (partA l W H s a L j).length ≤ 64 := by
 have h1 := part_len (l := l) hr h0 ha ((L.take j).filter (fun b => decide (a < b))) (fun b hb => by have := (List.mem_filter.1 hb).2; simp at this; omega)
 have h2 : ((L.take j).filter (fun b => decide (a < b))).length ≤ 4 := Nat.le_trans (List.length_filter_le _ _) (by simp; omega)
 unfold partA
 omega
theorem allG_len {l : List Int} {W H s : Int} (hr : rightB W H s = true) {n : Nat} (hn : (n : Int) ≤ cnt W H s) : (allG (btw l W H s) W H s n).length ≤ n * 64 := by
 rw [allG_of hr (l := l) (fun a b _ _ _ _ => rfl)]
 exact ofG_len hr hn
def RetGates1 (w : World) (L : List (Cell × Cell)) (e : Ending) (w' : World) : Prop := ∃ v, e = .returned v ∧ Ext w w' ∧ Own pairE w' w.heap.size 160 v L
set_option maxRecDepth 100000 in
set_option maxHeartbeats 2000000 in
theorem rdGates_any {w : World} {p : Spot} {R : Nat → Prop} {W H s : Int} {l : List Int} {G : Int → Int → Option (List (Cell × Cell))} {T : List Tab} (h : Stand w p R W H s l G T) (hG : GFull W H s l G) :
  Calls Tryz.prog 29 #[.pointer (some ⟨p.b, 0, none⟩)] w (RetGates1 w (gatesA W H s l)) := by
 have ht := h.good.right
 have b0 := h.good.cnt
 obtain ⟨N, hN⟩ : ∃ N : Nat, (cnt W H s).toNat = N := ⟨_, rfl⟩
 have HN := hide (show cnt W H s = (N : Int) by omega)
 have hN1 : 1 ≤ N := by omega
 have hN2 : N ≤ 65536 := by omega
 have HE := hide (show gatesA W H s l = allG (btw l W H s) W H s N by unfold gatesA; rw [allG_of ht (l := l) (fun a b _ _ _ _ => rfl), hN])
 have HGT := hide h.gates
 have HGF := hide hG
 have B := hide h.blk
 unfold worldCells at B
 rw [HE.out]
 clear b0 hN h hG
 have b0 := B.out.at 0 rfl; have b1 := B.out.at 1 rfl; have b2 := B.out.at 2 rfl; have b3 := B.out.at 3 rfl; have b4 := B.out.at 4 rfl; have b5 := B.out.at 5 rfl; have b6 := B.out.at 6 rfl; have b7 := B.out.at 7 rfl; have bz := B.out.lt
 go_enter Tryz.func29, Tryz.ntmps29
 go_wp2_with fail
 refine (count_yes W H s _ ht).mono ?_
 rintro e w1 ⟨rfl, x1⟩
 rw [HN.out]
 have X1 := hide x1
 clear x1 b0 b1 b2 b3 b4 b5 b6 b7 bz
 go_wp2_with fail
 go_loopw [3, 16] (fun o i wr => ∃ k : Nat, k ≤ N ∧ i = .int .i64 (k : Int) ∧ Ext w wr ∧ Own pairE wr w.heap.size 160 o (allG (btw l W H s) W H s k)) (fun _ i _ => N - (intOf i).toNat)
 case atStart => exact ⟨0, Nat.zero_le _, rfl, X1.out, Own.nil _ _ _ _⟩
 case round =>
  obtain ⟨k, hk, rfl, hx, ho⟩ := hrel
  have HX := hide hx
  have HO := hide ho
  have hz := hx.size
  clear hx ho X1
  by_cases hlt : k < N
  ·have BPr := hide (B.out.ext HX.out)
   have p3 := BPr.out.at 3 rfl
   have p4 := BPr.out.at 4 rfl
   have p5 := BPr.out.at 5 rfl
   have pz := BPr.out.lt
   have hkc : (k : Int) < cnt W H s := by rw [HN.out]; omega
   have HKC := hide hkc
   have HLn := hide (allG_len (l := l) ht (n := k) (by omega))
   clear hkc
   go_wp2_with fail
   refine (Beside_yes W H s (k : Int) _ ht (by omega) HKC.out).mono ?_
   rintro e w3 ⟨v3, rfl, x3, o3⟩
   obtain ⟨a3, c3, rfl⟩ := o3.slice
   have hm4 := besideL_len W H s (k : Int)
   obtain ⟨m, hmm⟩ : ∃ m, (besideL W H s (k : Int)).length = m := ⟨_, rfl⟩
   rw [hmm] at o3 hm4 ⊢
   have HMM := hide hmm
   have O3 := hide o3
   have X3 := hide x3
   clear hmm o3 x3
   go_wp2_with fail
   refine (sortI_any O3.out (by rw [HMM.out]; omega)).mono ?_
   rintro e w4 ⟨rfl, o4, t4⟩
   have X4 := hide (X3.out.of_below (t4.to_below X3.out.size (fun q hq => (own_lt O3.out hq).1)) (Nat.le_refl _))
   have O4 := hide o4
   have HXX := hide (HX.out.trans X4.out)
   have HOO := hide (HO.out.ext X4.out)
   have HLm := hide (show (sortInt (besideL W H s (k : Int))).length = m by rw [sortInt_len, HMM.out])
   have HLi := hide (fun b (hb : b ∈ sortInt (besideL W H s (k : Int))) => beside_rng ht (by omega) HKC.out ((sortInt_perm _).mem_iff.1 hb))
   have HLh := hide (fun b (hb : b ∈ sortInt (besideL W H s (k : Int))) => (sortInt_perm _).mem_iff.1 hb)
   have HRow := hide (show rowA (btw l W H s) W H s (k : Int) = partA l W H s (k : Int) (sortInt (besideL W H s (k : Int))) m by unfold partA rowA; rw [List.take_of_length_le (by rw [HLm.out]; exact Nat.le_refl _)])
   generalize sortInt (besideL W H s (k : Int)) = L at *
   clear o4 t4 O3 X3 HO HX BPr p3 p4 p5 pz
   go_wp2_with fail
   go_loopw [3, 32] (fun o i wy => ∃ j : Nat, j ≤ m ∧ i = .int .i64 (j : Int) ∧ Ext w wy ∧ Own pairE wy w.heap.size 160 o (allG (btw l W H s) W H s k ++ partA l W H s (k : Int) L j) ∧ Own intE wy w.heap.size 3 (.slice a3 m c3) L) (fun _ i _ => m - (intOf i).toNat)
   case atStart => exact ⟨0, Nat.zero_le _, rfl, HXX.out, by simpa [partA] using HOO.out, O4.out.lower hz⟩
   case round =>
    obtain ⟨j, hj, rfl, hx, ho, hn⟩ := hrel
    have HX := hide hx
    have HO := hide ho
    have HNr := hide hn
    have hzz := hx.size
    clear hx ho hn HXX HOO O4 X4
    by_cases hltj : j < m
    ·obtain ⟨b, hb⟩ : ∃ b, L[j]? = some b := ⟨_, List.getElem?_eq_getElem (by rw [HLm.out]; exact hltj)⟩
     have hbm := List.mem_of_getElem? hb
     have hb1 := HLi.out b hbm
     have HH := hide (HLh.out b hbm)
     obtain ⟨g, rfl, cg, zg⟩ := own_int_at HNr.out hb
     by_cases hbk : (k : Int) < b
     ·have HP := hide (partA_take (l := l) (W := W) (H := H) (s := s) hb hbk)
      have HPl := hide (partA_len (l := l) ht (by omega) HKC.out (L := L) (by rw [HLm.out]; omega) j)
      have HBl := hide (btw_len (l := l) ht (x := (k : Int)) (y := b) (by omega) (by have := HKC.out; omega))
      have hgf := HGF.out (k : Int) b (by omega) hb1.2 hbk HH.out
      obtain ⟨f, mv, hf⟩ := HGT.out
      rcases hf (k : Int) b with ⟨_, e2⟩ | ⟨v, L2, e1, e2, ov, _⟩
      ·rw [hgf] at e2; cases e2
      ·obtain rfl : btw l W H s (k : Int) b = L2 := by rw [hgf] at e2; exact Option.some.inj e2
       have hlook := (mv.ext HX.out).get e1
       have OV := hide (ov.ext HX.out)
       have BPr := hide (B.out.ext HX.out)
       have p6 := BPr.out.at 6 rfl
       have pz := BPr.out.lt
       clear hb hbm hgf mv hf e1 e2 ov
       go_wp2_with (at_builtin; refine wpList_app_rows pairE T_gates rfl _ _ rfl w.heap.size _ _ (btw l W H s (k : Int) b) rfl HO.out _ rfl OV.out.reads (by have := HLn.out; have := HPl.out; have := HBl.out; rw [List.length_append]; omega) (by have := HLn.out; have := HPl.out; have := HBl.out; rw [List.length_append]; omega) (by omega) ?_; intro v9 w9 o9 t9 l9; obtain ⟨a9, c9, rfl⟩ := o9.slice; have O9 := hide o9; have T9 := hide t9; clear o9 t9 l9)
       go_roundw
       case rel =>
        refine ⟨j + 1, by omega, by go_num, HX.out.of_below (T9.out.to_below (by omega) (fun q hq => (own_lt HO.out hq).1)) (Nat.le_refl _), ?_, HNr.out.touch T9.out (fun q hq hs => own_ne_ownG HO.out HNr.out (by decide) hs hq)⟩
        have h := O9.out
        rw [List.append_assoc, ← HP.out] at h
        rw [show (allG (btw l W H s) W H s k).length + ((partA l W H s (k : Int) L j).length + (btw l W H s (k : Int) b).length) = (allG (btw l W H s) W H s k ++ partA l W H s (k : Int) L (j + 1)).length by rw [HP.out]; simp]
        exact h
       case measure => simp [intOf]; omega
     ·have HP := hide (partA_skip (l := l) (W := W) (H := H) (s := s) hb hbk)
      clear hb hbm
      go_wp2
      go_roundw
      case rel => exact ⟨j + 1, by omega, by go_num, HX.out, by rw [HP.out]; exact HO.out, HNr.out⟩
      case measure => simp [intOf]; omega
    ·obtain rfl : j = m := by omega
     go_wp2
     go_roundw
     case rel => exact ⟨k + 1, by omega, by go_num, HX.out, by rw [allG_succ, HRow.out]; exact HO.out⟩
     case measure => simp [intOf]; omega
  ·obtain rfl : k = N := by omega
   go_wp2
   obtain ⟨ao, co, rfl⟩ := HO.out.slice
   go_ret
   exact ⟨_, rfl, HX.out, HO.out⟩
end Go.Proofs.YtaellcgglldjaaaGreat

namespace Go.Proofs.YtaellcgglldjaaaGreat
open Go.RowKit
theorem cellsE_of {W H s id : Int} {l : List Cell} : ∀ {n : Nat}, (∀ k, k < n → cellBad W H s id l k = 0) → cellsE W H s id l n = 0
 | 0, _ => rfl
 | n + 1, h => cellsE_next (cellsE_of fun k hk => h k (by omega)) (h n (by omega))
theorem celA_in {W H s id : Int} {l : List Int} (g : Good W H s l) (hi : 0 ≤ id ∧ id < cnt W H s) {c : Cell} (hc : c ∈ celA W H s l id) : inId W H s id c = true := by
 obtain ⟨h1, h2⟩ := ((cellsL_mem g.right hi.1 hi.2).1 hc).1
 unfold inId
 simp [h1, h2]
theorem celA_int {W H s id : Int} {l : List Int} (g : Good W H s l) (hi : 0 ≤ id ∧ id < cnt W H s) : ∀ q ∈ celA W H s l id, InI q.1 ∧ InI q.2 := fun q hq => by
 obtain ⟨h1, _⟩ := ((cellsL_mem g.right hi.1 hi.2).1 hq).1
 have := inB_true.1 h1
 obtain ⟨r1, r2, r3, r4, r5, r6⟩ := rightB_true.1 g.right
 unfold InI
 omega
theorem celA_ok {W H s id : Int} {l : List Int} (g : Good W H s l) (hi : 0 ≤ id ∧ id < cnt W H s) : innerE W H l.length W H s id (celA W H s l id) = 0 := by
 refine innerE_ok.2 ⟨g.ok, rfl, rfl, g.right, hi, cellsE_of fun k hk => ?_⟩
 have hin := celA_in g hi (List.getElem_mem hk)
 have hst := cellsL_strict W H s id (gatesA W H s l)
 have hst' : (celA W H s l id).Pairwise ltC := hst
 unfold cellBad
 have e : (celA W H s l id).getD k (0, 0) = (celA W H s l id)[k] := by simp [List.getD_eq_getElem?_getD, hk]
 rw [e, if_neg (by rw [hin]; simp)]
 rw [if_neg]
 rintro ⟨h0, hr⟩
 have e2 : (celA W H s l id).getD (k - 1) (0, 0) = (celA W H s l id)[k - 1] := by
  have : k - 1 < (celA W H s l id).length := by omega
  simp [List.getD_eq_getElem?_getD, this]
 rw [e2] at hr
 have hlt := List.pairwise_iff_getElem.1 hst' (k - 1) k (by omega) hk (by omega)
 unfold ltC at hlt
 unfold riseB at hr
 simp at hr
 omega
theorem celA_len {W H s id : Int} {l : List Int} (g : Good W H s l) (hi : 0 ≤ id ∧ id < cnt W H s) : (celA W H s l id).length ≤ 256 := cellsL_len g.right hi.1 hi.2 _
def boolE : Enc Bool := ⟨1, fun x => [.bool x], fun _ => rfl, fun _ u hu => by simp at hu; subst hu; rfl⟩
theorem T_bools : ElemT Tryz.prog 96 4 (.bool false) 1 1 := ⟨Tryz.underlying96, by kernel_rfl, rfl, by decide⟩
theorem own_bool_at {w : World} {base n c g : Nat} {e : TypeId} {l : List Bool} {j : Nat} {b : Bool} (h : Own boolE w base e (.slice (some ⟨g, 0, none⟩) n c) l) (hj : l[j]? = some b) : w.cell? ⟨g, j, none⟩ = some (.bool b) := by
 obtain ⟨hjl, rfl⟩ := List.getElem?_eq_some_iff.1 hj
 obtain ⟨a', c', en⟩ := h.slice
 have en' : n = l.length := by injection en
 clear en
 subst en'
 have h' : w.ownsRow base e 1 (.slice (some ⟨g, 0, none⟩) l.length c) l.length (l.flatMap boolE.cells) := h
 have f0 := flat_at boolE l j _ (List.getElem?_eq_getElem hjl) 0 (.bool l[j]) rfl
 have e0 : (l.flatMap boolE.cells)[j]? = some (.bool l[j]) := by
  have e : j * boolE.size + 0 = j := by show j * 1 + 0 = j; omega
  rwa [e] at f0
 have c0 := World.ownsRow.cellAt (size := 1) h' j (by omega)
 rw [e0] at c0
 exact c0
def updG (G : Int → Int → Option (List (Cell × Cell))) (x y : Int) (L : List (Cell × Cell)) (a b : Int) : Option (List (Cell × Cell)) := if a = x ∧ b = y then some L else G a b
section
variable {w : World} {p : Spot} {R : Nat → Prop} {W H s : Int} {l : List Int} {G : Int → Int → Option (List (Cell × Cell))} {T : List Tab}
theorem Stand.put (h : Stand w p R W H s l G T) {x y : Int} (hx : Rg x y) {v : Value} {L : List (Cell × Cell)} (o : Own pairE w 0 160 v L) (i : InR R v) :
  ∃ w', (Instr.mapUpdate 89 (.map (some p.m)) (.agg #[.int .i64 x, .int .i64 y]) v).run Tryz.prog w = .ok () w' ∧ Stand w' p R W H s l (updG G x y L) T ∧ Touch (fun k => k = p.m) w w' := by
 have hbm := h.bm
 have hmt := h.mt
 obtain ⟨f, mv, hf⟩ := h.gates
 obtain ⟨w', hrun, mv', t⟩ := mv.put hx v
 have hR : ∀ k, R k → ¬ k = p.m := fun k hk e => h.apart k hk (.inr (.inl e))
 refine ⟨w', hrun, ⟨h.good, h.blk.touch t (fun e => hbm e), h.cost.touch t (fun k hk => hR k (h.costR k hk)), h.costR, ⟨_, mv', fun a b => ?_⟩, ?_, h.num, fun k hk => Nat.lt_of_lt_of_le (h.lt k hk) t.size, h.apart⟩, t⟩
 ·unfold upd2 updG
  by_cases hk : a = x ∧ b = y
  ·rw [if_pos hk, if_pos hk]
   exact .inr ⟨v, L, rfl, rfl, o.touch t (fun k hk => hR k (i k hk)), i⟩
  ·rw [if_neg hk, if_neg hk]
   refine (hf a b).imp id ?_
   rintro ⟨v, L, e1, e2, o, i⟩
   exact ⟨v, L, e1, e2, o.touch t (fun k hk => hR k (i k hk)), i⟩
 ·obtain ⟨ts, h1, h2⟩ := h.tabs
  exact ⟨ts, h1.touch t (fun k hk e => by cases hk; exact hmt e.symm), h2.touch t hR⟩
theorem touchTab (w : World) (g k : Nat) (u v : Value) : Touch (fun j => j = g) w ((w.setCell ⟨g, k * 2, none⟩ u).setCell ⟨g, k * 2 + 1, none⟩ v) :=
 ((Touch.refl (fun j => j = g) w).setCell (p := ⟨g, k * 2, none⟩) (.inl rfl) u).setCell (p := ⟨g, k * 2 + 1, none⟩) (.inl rfl) v
theorem Stand.setTab (h : Stand w p R W H s l G T) {k : Nat} (hk : k < T.length) {q : Sl × Sl} {t : Tab} (hT : TabR R w q t) :
  Stand ((w.setCell ⟨p.tb, k * 2, none⟩ (slV q.1)).setCell ⟨p.tb, k * 2 + 1, none⟩ (slV q.2)) p R W H s l G (T.set k t) := by
 have tt := touchTab w p.tb k (slV q.1) (slV q.2)
 have hbt := h.bt
 have hmt := h.mt
 have hR : ∀ j, R j → ¬ j = p.tb := fun j hj e => h.apart j hj (.inr (.inr e))
 obtain ⟨ts, h1, h2, h3⟩ := h.tabs
 refine ⟨h.good, by rw [List.length_set]; exact h.blk.touch tt hbt, h.cost.touch tt (fun k hk => hR k (h.costR k hk)), h.costR, h.gates.touch tt hmt hR, ⟨ts.set k q, ?_, ?_, ?_⟩, by rw [List.length_set]; exact h.num, fun k hk => Nat.lt_of_lt_of_le (h.lt k hk) tt.size, h.apart⟩
 ·rw [List.length_set]
  exact Own.turn (E := tabE) h1 (by rw [h2]; exact hk) q
 ·simp [h2]
 ·intro i a b ha hb
  rw [List.getElem?_set] at ha hb
  by_cases hi : k = i
  ·subst hi
   rw [if_pos rfl] at ha hb
   rw [if_pos (by rw [h2]; exact hk)] at ha
   rw [if_pos hk] at hb
   cases ha
   cases hb
   exact hT.touch tt hR
  ·rw [if_neg hi] at ha hb
   exact (h3 i a b ha hb).touch tt hR
set_option maxRecDepth 100000 in
theorem stale_any (h : Stand w p R W H s l G T) {b1 b2 tg tc N k : Nat} {tk : Bool} (h1 : w.cell? ⟨b1, 0, none⟩ = some (.slice (some ⟨tg, 0, none⟩) N tc)) (h2 : w.cell? ⟨b2, 0, none⟩ = some (.pointer (some ⟨p.b, 0, none⟩)))
  (hN : T.length = N) (hk : k < N) (hb : w.cell? ⟨tg, k, none⟩ = some (.bool tk)) {a : Option Addr} {cs : List Cell} (c : Nat) (hc : RowC w a cs) (hl : cs.length ≤ 1000000) {t : Tab} (hT : T[k]? = some t) :
  Calls Tryz.prog 79 (#[.int .i64 (k : Int), .slice a cs.length c] ++ #[.pointer (some ⟨b1, 0, none⟩), .pointer (some ⟨b2, 0, none⟩)]) w fun e w' => e = .returned (.bool (tk || !(decide (cs = t.1)))) ∧ Ext w w' := by
 have z1 := World.block_lt_of_cell? w _ h1
 have z2 := World.block_lt_of_cell? w _ h2
 have zb := World.block_lt_of_cell? w _ hb
 simp only at z1 z2 zb
 have jk : (k : Int) < (N : Int) := by omega
 simp only [List.append_toArray]
 cases tk with
 | true =>
  clear h hc hT hl
  go_enter Tryz.func79, Tryz.ntmps79
  go_wp2_with fail
  go_ret
  exact ⟨rfl, z_x⟩
 | false =>
  obtain ⟨ts, t1, t2, t3⟩ := h.tabs
  obtain ⟨q, hq⟩ : ∃ q, ts[k]? = some q := ⟨_, List.getElem?_eq_getElem (by omega)⟩
  have TA := (t3 k q _ hq hT).1.1
  have CA := (own_tab_at t1 hq).1
  obtain ⟨⟨q1, q2, q3⟩, q4⟩ := q
  simp only [slV] at TA CA
  obtain ⟨e1, rc⟩ := Reads.rowC TA.reads
  subst e1
  have HE := hide (fun (w' : World) (x : Ext w w') => equalCell_any a q1 cs t.1 c q3 w' hl (hc.ext x) (rc.ext x))
  have B := hide h.blk
  unfold worldCells at B
  rw [hN] at B
  have b7 := B.out.at 7 rfl
  have bz := B.out.lt
  have ztb := World.block_lt_of_cell? w _ CA
  simp only at ztb
  generalize t.1 = cs2 at *
  generalize decide (cs = cs2) = dd at *
  obtain ⟨n, hn⟩ : ∃ z, cs.length = z := ⟨_, rfl⟩
  obtain ⟨m, hm⟩ : ∃ z, cs2.length = z := ⟨_, rfl⟩
  rw [hn, hm] at HE
  rw [hm] at CA
  rw [hn]
  clear h hc hT hl t1 t2 t3 hq TA rc hN hn hm
  go_enter Tryz.func79, Tryz.ntmps79
  go_wp2_with fail
  refine (HE.out _ z_x).mono ?_
  rintro e w1 ⟨rfl, x1⟩
  have X1 := hide x1
  clear x1
  go_wp2_with fail
  go_ret
  exact ⟨by simp, Ext.trans z_x X1.out⟩
end
end Go.Proofs.YtaellcgglldjaaaGreat

namespace Go.Proofs.YtaellcgglldjaaaGreat
open Go.RowKit
def Near (W H s a b : Int) : Prop := 0 ≤ a ∧ b < cnt W H s ∧ a < b ∧ b ∈ besideL W H s a
theorem btw_mm (l : List Int) (W H s x y : Int) : btw l W H s (min x y) (max x y) = btw l W H s x y := by
 unfold btw bords
 rw [show min (min x y) (max x y) = min x y by omega, show max (min x y) (max x y) = max x y by omega]
theorem beside_near {W H s a b : Int} (hr : rightB W H s = true) (h0 : 0 ≤ a) (ha : a < cnt W H s) (hb : b ∈ besideL W H s a) : Near W H s (min a b) (max a b) := by
 have hrg := beside_rng hr h0 ha hb
 have hne : b ≠ a := by
  rintro rfl
  have h := beside_self (id := b) hr
  rw [hasI_iff.2 hb] at h
  cases h
 by_cases hlt : a < b
 ·rw [show min a b = a by omega, show max a b = b by omega]
  exact ⟨h0, hrg.2, hlt, hb⟩
 ·rw [show min a b = b by omega, show max a b = a by omega]
  obtain ⟨h1, h2, h3, h4, h5, h6⟩ := rightB_true.1 hr
  have b1 := acr_bd W s h5 h6 h1 h2
  have hp : Pair W H s b a := by
   refine ⟨hrg.1, ha, ?_⟩
   rcases beside_mem.1 hb with ⟨h, e⟩ | ⟨h, e⟩ | ⟨h, e⟩ | ⟨h, e⟩
   ·right; omega
   ·omega
   ·omega
   ·left
    refine ⟨by omega, ?_⟩
    have e1 := Int.emod_add_mul_ediv a (acr W s)
    have e2 : b = (a % acr W s - 1) + acr W s * (a / acr W s) := by omega
    have e3 := Int.emod_lt_of_pos a (show 0 < acr W s by omega)
    rw [e2, Int.add_mul_emod_self_left, Int.emod_eq_of_lt (by omega) (by omega)]
    omega
  exact ⟨hrg.1, ha, by omega, (hp.mem hr).1⟩
theorem near_has {W H s a b : Int} (h : Near W H s a b) : hasI (besideL W H s a) b = true := hasI_iff.2 h.2.2.2
theorem near_back {W H s a b : Int} (hr : rightB W H s = true) (h : Near W H s a b) : a ∈ besideL W H s b := (((near_pair hr h.1 h.2.2.1 h.2.1).1 (near_has h)).mem hr).2
def Inv (W H s : Int) (l : List Int) (tu : List Bool) (G0 : Int → Int → Option (List (Cell × Cell))) (k : Nat) (G : Int → Int → Option (List (Cell × Cell))) : Prop :=
 ∀ a b, Near W H s a b → ((tu.getD a.toNat false = true ∧ a < k) ∨ (tu.getD b.toNat false = true ∧ b < k) ∨ G0 a b = some (btw l W H s a b)) → G a b = some (btw l W H s a b)
def InvJ (W H s : Int) (l : List Int) (G : Int → Int → Option (List (Cell × Cell))) (k : Nat) (L : List Int) (j : Nat) : Prop :=
 ∀ (i : Nat) (b : Int), i < j → L[i]? = some b → G (min (k : Int) b) (max (k : Int) b) = some (btw l W H s (k : Int) b)
section
variable {W H s : Int} {l : List Int} {tu : List Bool} {G0 G : Int → Int → Option (List (Cell × Cell))} {k : Nat} {L : List Int} {j : Nat}
theorem Inv.skip (h : Inv W H s l tu G0 k G) (ht : tu[k]? = some false) : Inv W H s l tu G0 (k + 1) G := fun a b hn hc => by
 have hf : tu.getD k false = false := by simp [List.getD_eq_getElem?_getD, ht]
 refine h a b hn ?_
 obtain ⟨n1, n2, n3, n4⟩ := hn
 rcases hc with ⟨h1, h2⟩ | ⟨h1, h2⟩ | h1
 ·refine .inl ⟨h1, ?_⟩
  by_cases e : a = k
  ·subst e; simp only [Int.toNat_natCast] at h1; rw [hf] at h1; cases h1
  ·omega
 ·refine .inr (.inl ⟨h1, ?_⟩)
  by_cases e : b = k
  ·subst e; simp only [Int.toNat_natCast] at h1; rw [hf] at h1; cases h1
  ·omega
 ·exact .inr (.inr h1)
theorem Inv.put (h : Inv W H s l tu G0 k G) (b : Int) : Inv W H s l tu G0 k (updG G (min (k : Int) b) (max (k : Int) b) (btw l W H s (k : Int) b)) := fun a c hn hc => by
 unfold updG
 by_cases e : a = min (k : Int) b ∧ c = max (k : Int) b
 ·rw [if_pos e, e.1, e.2, btw_mm]
 ·rw [if_neg e]; exact h a c hn hc
theorem InvJ.put (h : InvJ W H s l G k L j) {b : Int} (hb : L[j]? = some b) : InvJ W H s l (updG G (min (k : Int) b) (max (k : Int) b) (btw l W H s (k : Int) b)) k L (j + 1) := fun i c hi hc => by
 unfold updG
 by_cases e : min (k : Int) c = min (k : Int) b ∧ max (k : Int) c = max (k : Int) b
 ·rw [if_pos e]
  obtain rfl : c = b := by omega
  rfl
 ·rw [if_neg e]
  refine h i c ?_ hc
  by_cases hij : i = j
  ·subst hij
   rw [hb] at hc
   cases hc
   exact absurd ⟨rfl, rfl⟩ e
  ·omega
theorem Inv.next (hr : rightB W H s = true) (h : Inv W H s l tu G0 k G) (hj : InvJ W H s l G k (besideL W H s (k : Int)) (besideL W H s (k : Int)).length) : Inv W H s l tu G0 (k + 1) G := fun a b hn hc => by
 have hJ : ∀ c, c ∈ besideL W H s (k : Int) → G (min (k : Int) c) (max (k : Int) c) = some (btw l W H s (k : Int) c) := fun c hc => by
  obtain ⟨i, hi, rfl⟩ := List.getElem_of_mem hc
  exact hj i _ hi (List.getElem?_eq_getElem hi)
 have hlt := hn.2.2.1
 by_cases ea : a = k
 ·have h2 := hJ b (by rw [← ea]; exact hn.2.2.2)
  rw [← ea, show min a b = a by omega, show max a b = b by omega] at h2
  exact h2
 ·by_cases eb : b = k
  ·have h2 := hJ a (by rw [← eb]; exact near_back hr hn)
   rw [← btw_mm, ← eb, show min b a = a by omega, show max b a = b by omega] at h2
   exact h2
  ·refine h a b hn ?_
   rcases hc with ⟨h1, h2⟩ | ⟨h1, h2⟩ | h1
   ·exact .inl ⟨h1, by omega⟩
   ·exact .inr (.inl ⟨h1, by omega⟩)
   ·exact .inr (.inr h1)
theorem Inv.full {n : Nat} (h : Inv W H s l tu G0 n G) (hn : (n : Int) = cnt W H s) (hG : ∀ a b, Near W H s a b → tu.getD a.toNat false = true ∨ tu.getD b.toNat false = true ∨ G0 a b = some (btw l W H s a b)) : GFull W H s l G := fun a b h0 hb hlt hm => by
 have hnr : Near W H s a b := ⟨h0, hb, hlt, hm⟩
 refine h a b hnr ?_
 rcases hG a b hnr with h1 | h1 | h1
 ·exact .inl ⟨h1, by omega⟩
 ·exact .inr (.inl ⟨h1, by omega⟩)
 ·exact .inr (.inr h1)
end
end Go.Proofs.YtaellcgglldjaaaGreat

