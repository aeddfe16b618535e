/- Part of a proof: CellsF HierT StarA. -/
import Derived.Test.YtaellcgglldjaaaGreatHierBacksQ14
import Derived.BigRegion
import Derived.Stop.RegionWithIn
import Derived.Shelf.Abstract
import Derived.Test.YtaellcgglldjaaaGreatHierBacksQ22
import Derived.Test.YtaellcgglldjaaaGreatHierBacksQ23
import Derived.Test.YtaellcgglldjaaaGreatHierBacksQ19
import Derived.Test.YtaellcgglldjaaaGreatHierBacksQ01
set_option linter.all false
set_option linter.unusedVariables false
set_option linter.unusedSimpArgs false
namespace Go.Proofs.YtaellcgglldjaaaGreat
open Go.RowKit
set_option maxHeartbeats 1000000 in
theorem idxCell_any {w : World} {sb : Nat} {m cap f : Nat} {caps : Array Value} {L : List Cell} {p : Cell → Bool} {base k0 : Nat} (hL : L.length = m) (hm : m ≤ 1000) (hv : Own cellE w base 28 (.slice (some ⟨sb, 0, none⟩) m cap) L)
  (hp : ∀ w', Ext w w' → ∀ q, q ∈ L → Calls Tryz.prog f (#[.agg #[.int .i64 q.1, .int .i64 q.2]] ++ caps) w' fun e w2 => e = .returned (.bool (p q)) ∧ Ext w' w2)
  (eg : ∀ args w, (callFunc f args).run Tryz.prog w = .ok (.enter f args) w)
  (hk : k0 < m) (hyes : ∀ q, L[k0]? = some q → p q = true) (hno : ∀ j q, j < k0 → L[j]? = some q → p q = false) :
  Calls Tryz.prog 122 #[.slice (some ⟨sb, 0, none⟩) m cap, .func (.func f) #[] caps] w fun e w' => e = .returned (.int .i64 k0) ∧ Ext w w' := by
 have HV := hide hv
 have HP := hide hp
 have HY := hide hyes
 have HNO := hide hno
 have HL := hide hL
 have zb := (own_lt hv rfl).2
 clear hv hp hyes hno hL
 go_enter Tryz.func122, Tryz.ntmps122
 go_wp2
 go_loopw [8] (fun i wr => ∃ k : Nat, k ≤ k0 ∧ i = .int .i64 k ∧ Ext w wr) (fun i _ => m - (intOf i).toNat)
 case atStart => exact ⟨0, Nat.zero_le _, rfl, Ext.refl _⟩
 case round =>
  obtain ⟨k, hkk, rfl, hext⟩ := hrel
  have hz := hext.size
  have hkm : k < m := by omega
  obtain ⟨q, hq⟩ : ∃ q, L[k]? = some q := ⟨_, List.getElem?_eq_getElem (by rw [HL.out]; exact hkm)⟩
  obtain ⟨d0, d1, _⟩ := cell_cells (HV.out.ext hext) hq
  have hki : (k : Int) < (m : Int) := by omega
  have HQ := hide (fun w' (hx : Ext wr w') => HP.out w' (hext.trans hx) q (List.mem_of_getElem? hq))
  have zr : sb < wr.heap.size := by omega
  by_cases hlt : k < k0
  ·have hf := HNO.out k q hlt hq
   rw [hf] at HQ
   clear hq hf
   go_wp2_with fail
   refine (HQ.out _ (Ext.refl _)).mono ?_
   rintro e w2 ⟨rfl, hb2⟩
   go_wp2
   go_roundw
   case rel => exact ⟨k + 1, by omega, by go_num, hext.trans hb2⟩
   case measure => simp [intOf]; omega
  ·obtain rfl : k = k0 := by omega
   have hf := HY.out q hq
   rw [hf] at HQ
   clear hq hf
   go_wp2_with fail
   refine (HQ.out _ (Ext.refl _)).mono ?_
   rintro e w2 ⟨rfl, hb2⟩
   go_wp2
   go_ret
   exact ⟨rfl, hext.trans hb2⟩
def RevAt (l L : List Cell) (m : Nat) : Prop := L.length = l.length ∧ ∀ q, q < l.length → L[q]? = if q < m ∨ l.length - m ≤ q then l[l.length - 1 - q]? else l[q]?
theorem rev_start (l : List Cell) : RevAt l l 0 := ⟨rfl, fun q hq => by rw [if_neg (by omega)]⟩
theorem rev_end {l L : List Cell} {m : Nat} (h : RevAt l L m) (hm : l.length ≤ 2 * m + 1) : L = l.reverse := by
 apply List.ext_getElem?
 intro q
 by_cases hq : q < l.length
 ·rw [h.2 q hq, List.getElem?_reverse hq]
  split
  ·rfl
  ·have : q = l.length - 1 - q := by omega
   rw [← this]
 ·rw [List.getElem?_eq_none (by rw [h.1]; omega), List.getElem?_eq_none (by simp; omega)]
theorem rev_step {l L : List Cell} {m : Nat} (h : RevAt l L m) (hm : 2 * m + 1 < l.length) {p q : Cell} (hp : L[m]? = some p) (hq : L[l.length - 1 - m]? = some q) : RevAt l ((L.set m q).set (l.length - 1 - m) p) (m + 1) := by
 have e1 := h.2 m (by omega)
 have e2 := h.2 (l.length - 1 - m) (by omega)
 rw [if_neg (by omega), hp] at e1
 rw [if_neg (by omega), hq] at e2
 refine ⟨by simp [h.1], fun k hk => ?_⟩
 rw [List.getElem?_set, List.getElem?_set, List.length_set, h.1]
 by_cases a : l.length - 1 - m = k
 ·subst a
  rw [if_pos rfl, if_pos (by omega), if_pos (by omega), show l.length - 1 - (l.length - 1 - m) = m by omega, e1]
 ·rw [if_neg a]
  by_cases b : m = k
  ·subst b
   rw [if_pos rfl, if_pos (by omega), if_pos (by omega), e2]
  ·rw [if_neg b, h.2 k hk]
   by_cases d : k < m ∨ l.length - m ≤ k
   ·rw [if_pos d, if_pos (by omega)]
   ·rw [if_neg d, if_neg (by omega)]
set_option maxRecDepth 100000 in
set_option maxHeartbeats 2000000 in
theorem revCell_any {w : World} {g c base n : Nat} {l : List Cell} (hl : l.length = n) (h1 : 1 ≤ n) (hn : n ≤ 100000) (hv : Own cellE w base 28 (.slice (some ⟨g, 0, none⟩) n c) l) :
  Calls Tryz.prog 71 #[.slice (some ⟨g, 0, none⟩) n c] w fun e w' => e = .returned (.tuple #[]) ∧ Own cellE w' base 28 (.slice (some ⟨g, 0, none⟩) n c) l.reverse ∧ Touch (fun k => k = g) w w' := by
 have HV := hide hv
 have HL := hide hl
 clear hv hl
 go_enter Tryz.func71, Tryz.ntmps71
 go_wp2
 go_loopw [2, 3] (fun i j wr => ∃ (m : Nat) (L : List Cell), 2 * m ≤ n ∧ i = .int .i64 m ∧ j = .int .i64 ((n : Int) - 1 - (m : Int)) ∧ RevAt l L m ∧ Own cellE wr base 28 (.slice (some ⟨g, 0, none⟩) n c) L ∧ Touch (fun k => k = g) w wr) (fun i _ _ => n - (intOf i).toNat)
 case atStart => exact ⟨0, l, by omega, rfl, by go_num, rev_start l, HV.out, Touch.refl _ _⟩
 case round =>
  obtain ⟨m, L, hmn, rfl, rfl, hrev, hown, ht⟩ := hrel
  have R := hide hrev
  have O := hide hown
  have T := hide ht
  have hLn : L.length = n := by rw [hrev.1, HL.out]
  have HLn := hide hLn
  by_cases hlt : 2 * m + 1 < n
  ·obtain ⟨j, hj⟩ : ∃ j, j = n - 1 - m := ⟨_, rfl⟩
   have hji : (n : Int) - 1 - (m : Int) = (j : Int) := by omega
   obtain ⟨⟨px, py⟩, hp⟩ : ∃ p, L[m]? = some p := ⟨_, List.getElem?_eq_getElem (by omega)⟩
   obtain ⟨⟨qx, qy⟩, hq⟩ : ∃ q, L[j]? = some q := ⟨_, List.getElem?_eq_getElem (by omega)⟩
   obtain ⟨a0, a1, zg⟩ := cell_cells hown hp
   obtain ⟨b0, b1, _⟩ := cell_cells hown hq
   have h' : wr.ownsRow base 28 2 (.slice (some ⟨g, 0, none⟩) n c) L.length (L.flatMap cellE.cells) := hown
   rw [hLn] at h'
   have f0 := h'.frozenAt (m * 2)
   have f1 := h'.frozenAt (m * 2 + 1)
   have f2 := h'.frozenAt (j * 2)
   have f3 := h'.frozenAt (j * 2 + 1)
   have hst := hide (rev_step (p := (px, py)) (q := (qx, qy)) hrev (by rw [HL.out]; exact hlt) hp (by rw [HL.out, ← hj]; exact hq))
   obtain ⟨w1, hw1⟩ : ∃ w1, w1 = setRun (setRun wr g (m * 2) (cellE.cells (qx, qy))) g (j * 2) (cellE.cells (px, py)) := ⟨_, rfl⟩
   have o1 : Own cellE w1 base 28 (.slice (some ⟨g, 0, none⟩) n c) ((L.set m (qx, qy)).set j (px, py)) := by
    rw [hw1]
    exact (hown.turn (i := m) (by omega) (qx, qy)).turn (i := j) (by rw [List.length_set]; omega) (px, py)
   have t1 : Touch (fun k => k = g) wr w1 := by
    rw [hw1]
    exact (setRun_touch g _ _ _).trans (setRun_touch g _ _ _)
   have O1 := hide o1
   have T1 := hide (ht.trans t1)
   have HW1 := hide hw1
   have HJ := hide hj
   have hne : m ≠ j := by omega
   have m1 : (m : Int) < (n : Int) := by omega
   have m2 : (j : Int) < (n : Int) := by omega
   have m3 : (m : Int) < (j : Int) := by omega
   have hjb : m + 1 ≤ j := by omega
   rw [hji]
   have HLT := hide hlt
   clear hrev hown ht hLn hp hq h' hw1 o1 t1 hj hji hmn hlt
   simp only at a0 a1 b0 b1
   go_wp2
   go_region
   rw [show (((wr.setCell ⟨g, m * 2, none⟩ (.int .i64 qx)).setCell ⟨g, m * 2 + 1, none⟩ (.int .i64 qy)).setCell ⟨g, j * 2, none⟩ (.int .i64 px)).setCell ⟨g, j * 2 + 1, none⟩ (.int .i64 py) = w1 from HW1.out.symm]
   clear a0 a1 b0 b1 f0 f1 f2 f3
   go_wp2
   go_roundw
   case rel => exact ⟨m + 1, (L.set m (qx, qy)).set j (px, py), by (have := HLT.out; omega), by go_num, by (have := HJ.out; congr 1; push_cast; omega), by rw [HL.out, ← HJ.out] at hst; exact hst.out, O1.out.drew, T1.out.drew⟩
   case measure => simp [intOf]; omega
  ·have hd : decide ((m : Int) < (n : Int) - 1 - (m : Int)) = false := by simp; omega
   have he := rev_end hrev (by rw [HL.out]; omega)
   subst he
   clear hrev hown ht hlt hLn HLn R
   go_wp2
   go_end0
   exact ⟨rfl, O.out, T.out⟩
def cellV (W : Int) (v : Nat) : Cell := (vx W v, vy W v)
theorem Row16.touch {S : Nat → Prop} {w w' : World} {a : Option Addr} {l : List Int} (h : Row16 w a l) (e : Touch S w w') (hs : ∀ b off, a = some ⟨b, off, none⟩ → ¬ S b) : Row16 w' a l := fun h0 => by
 obtain ⟨b, off, ha, hb, hc⟩ := h h0
 exact ⟨b, off, ha, Nat.lt_of_lt_of_le hb e.size, fun k hk => (e.cell (p := ⟨b, off + k, none⟩) hb (hs b off ha)).trans (hc k hk)⟩
end Go.Proofs.YtaellcgglldjaaaGreat

namespace Go.Proofs.YtaellcgglldjaaaGreat
open Go.RowKit
theorem cellV_idx {W H : Int} {c : Cell} (h : inB W H c.1 c.2 = true) : cellV W (idxN W c) = c := by
 have b := inB_true.1 h
 obtain ⟨x, y⟩ := c
 simp only at b
 unfold cellV
 rw [vx_idx (by omega) (by omega) (by omega), vy_idx (by omega) (by omega) (by omega)]
theorem idx_inj {W H : Int} {a c : Cell} (ha : inB W H a.1 a.2 = true) (hc : inB W H c.1 c.2 = true) (h : idxN W a = idxN W c) : a = c := by
 rw [← cellV_idx ha, ← cellV_idx hc, h]
theorem in_v {W H s : Int} {l : List Int} (g : Good W H s l) {v : Nat} (hv : v < l.length) : inB W H (cellV W v).1 (cellV W v).2 = true ∧ idxN W (cellV W v) = v := by
 obtain ⟨hm, hl⟩ := checkE_ok.1 g.ok
 have hb := mayB_true.1 hm
 have hlt : (v : Int) < W * H := by omega
 have := v_bd (H := H) (W := W) (by omega) hlt
 exact ⟨inB_true.2 ⟨by omega, by omega, by omega, by omega, this.1, this.2.1, this.2.2.1, this.2.2.2⟩, idx_v (by omega) v⟩
theorem net_top {W H s id : Int} {l : List Int} (L : boxL W H s id l) : (mapNet L).n = l.length := rfl
theorem dist_is {W H s : Int} {l : List Int} (g : Good W H s l) {a : Cell} (ha : inB W H a.1 a.2 = true) : ∃ L : boxL W H s (ofN W s a.1 a.2) l, ∀ c, distB W H s l a c = farD L a (idxN W c) := by
 have L := g.box (ofN_bd g.right ha)
 refine ⟨L, fun c => ?_⟩
 unfold distB
 rw [dif_pos L]
theorem dist_leg {W H s : Int} {l : List Int} (g : Good W H s l) (hl : l.length ≤ 150) {a c : Cell} (ha : inB W H a.1 a.2 = true) (hc : inB W H c.1 c.2 = true) (hne : c ≠ a) (hd : distB W H s l a c ≠ infI) : 0 < distB W H s l a c ∧ distB W H s l a c ≤ 10000000 := by
 obtain ⟨L, hL⟩ := dist_is g ha
 rw [hL] at hd ⊢
 have F := farD_is L a
 have hlt : farD L a (idxN W c) < infI := by have := F.le (idxN W c); omega
 have ho := F.open_ hlt
 have hs : idxN W c ≠ idxN W a := fun e => hne (idx_inj hc ha e)
 obtain ⟨u, _, _, he⟩ := F.from_ _ ho hs hlt
 have hn := F.nn u
 have hp := (mapNet L).pos _ ho
 have hlow := far_low F _ hlt
 rw [net_top L] at hlow
 exact ⟨by omega, by omega⟩
def opH (W H : Int) (G : List (Cell × Cell)) (f t : Cell) (n v : Nat) : Bool := decide (v < n) && nodeB G f t (cellV W v)
noncomputable def legsV (W H s : Int) (l : List Int) (G : List (Cell × Cell)) (f t : Cell) (v : Nat) : List (Nat × Int) := (legsL W H s l G f t (cellV W v)).map fun q => (idxN W q.1, q.2)
theorem opH_iff {W H s : Int} {l : List Int} (g : Good W H s l) {G : List (Cell × Cell)} {f t : Cell} {v : Nat} : opH W H G f t l.length v = true ↔ ∃ c, c ∈ nodesL W H G f t ∧ idxN W c = v := by
 unfold opH
 have hb := mayB_true.1 (checkE_ok.1 g.ok).1
 constructor
 ·intro h
  rw [Bool.and_eq_true, decide_eq_true_eq] at h
  obtain ⟨h1, h2⟩ := in_v g h.1
  have := inB_true.1 h1
  refine ⟨cellV W v, ?_, h2⟩
  unfold nodesL
  rw [List.mem_filter, boxCells_mem]
  exact ⟨by omega, h.2⟩
 ·rintro ⟨c, hc, rfl⟩
  unfold nodesL at hc
  rw [List.mem_filter, boxCells_mem] at hc
  have hi : inB W H c.1 c.2 = true := inB_true.2 (by omega)
  rw [cellV_idx hi, hc.2, Bool.and_true, decide_eq_true_eq]
  exact idx_len (checkE_ok.1 g.ok).2 hi
theorem node_in {W H s : Int} {l : List Int} (g : Good W H s l) {G : List (Cell × Cell)} {f t c : Cell} (h : c ∈ nodesL W H G f t) : inB W H c.1 c.2 = true := by
 have hb := mayB_true.1 (checkE_ok.1 g.ok).1
 have := nodesL_mem.1 h
 exact inB_true.2 (by omega)
theorem node_gate {W H s : Int} {l : List Int} (g : Good W H s l) {f t c : Cell} (h : gIn (gatesA W H s l) c = true) : c ∈ nodesL W H (gatesA W H s l) f t := by
 have hi := flat_in g.right (gIn_flat.1 h)
 have := inB_true.1 hi
 exact nodesL_mem.2 ⟨by omega, .inr (.inr h)⟩
theorem leg_mem {W H s : Int} {l : List Int} {G : List (Cell × Cell)} {f t a : Cell} {q : Cell × Int} : q ∈ legsL W H s l G f t a ↔
  (q.1 ∈ nodesL W H G f t ∧ ofN W s q.1.1 q.1.2 = ofN W s a.1 a.2 ∧ q.1 ≠ a ∧ distB W H s l a q.1 ≠ infI ∧ q.2 = distB W H s l a q.1) ∨ (∃ g ∈ G, q ∈ legG W l a g) := by
 unfold legsL legsIn legsG
 rw [List.mem_append, List.mem_map, List.mem_flatMap]
 refine or_congr ⟨?_, ?_⟩ Iff.rfl
 ·rintro ⟨c, hc, rfl⟩
  rw [List.mem_filter] at hc
  simp only [Bool.and_eq_true, decide_eq_true_eq, Bool.not_eq_true', decide_eq_false_iff_not] at hc
  exact ⟨hc.1, hc.2.1, hc.2.2.1, hc.2.2.2, rfl⟩
 ·rintro ⟨h1, h2, h3, h4, h5⟩
  refine ⟨q.1, ?_, by rw [← h5]⟩
  rw [List.mem_filter]
  simp only [Bool.and_eq_true, decide_eq_true_eq, Bool.not_eq_true', decide_eq_false_iff_not]
  exact ⟨h1, h2, h3, h4⟩
theorem legG_mem {W : Int} {l : List Int} {a : Cell} {g : Cell × Cell} {q : Cell × Int} (h : q ∈ legG W l a g) : (g.1 = a ∧ q = (g.2, costI l W g.2)) ∨ (g.2 = a ∧ q = (g.1, costI l W g.1)) := by
 unfold legG at h
 split at h
 ·next e => simp only [List.mem_singleton] at h; exact .inl ⟨e, h⟩
 ·split at h
  ·next e => simp only [List.mem_singleton] at h; exact .inr ⟨e, h⟩
  ·cases h
theorem leg_ok {W H s : Int} {l : List Int} (g : Good W H s l) (hl : l.length ≤ 150) {f t a : Cell} (ha : inB W H a.1 a.2 = true) {q : Cell × Int} (h : q ∈ legsL W H s l (gatesA W H s l) f t a) :
  q.1 ∈ nodesL W H (gatesA W H s l) f t ∧ q.1 ≠ a ∧ 0 < q.2 ∧ q.2 ≤ 10000000 ∧ ((ofN W s q.1.1 q.1.2 = ofN W s a.1 a.2 ∧ q.2 = distB W H s l a q.1 ∧ distB W H s l a q.1 ≠ infI) ∨ (ofN W s q.1.1 q.1.2 ≠ ofN W s a.1 a.2 ∧ q.2 = costI l W q.1)) := by
 rcases leg_mem.1 h with ⟨h1, h2, h3, h4, h5⟩ | ⟨e, he, hq⟩
 ·have hd := dist_leg g hl ha (node_in g h1) h3 h4
  exact ⟨h1, h3, by omega, by omega, .inl ⟨h2, h5, h4⟩⟩
 ·obtain ⟨x, y, x0, xy, yb, _, i1, i2, o1, o2, hop, _⟩ := gate_in g.right he
  unfold openP at hop
  rw [Bool.and_eq_true, decide_eq_true_eq, decide_eq_true_eq] at hop
  have b1 := costI_bd g.u16 W e.1
  have b2 := costI_bd g.u16 W e.2
  rcases legG_mem hq with ⟨rfl, rfl⟩ | ⟨rfl, rfl⟩
  ·refine ⟨node_gate g (gIn_iff.2 ⟨e, he, .inr rfl⟩), fun k => ?_, by simp only; omega, by simp only; omega, .inr ⟨by simp only; omega, rfl⟩⟩
   simp only at k
   rw [k] at o2
   omega
  ·refine ⟨node_gate g (gIn_iff.2 ⟨e, he, .inl rfl⟩), fun k => ?_, by simp only; omega, by simp only; omega, .inr ⟨by simp only; omega, rfl⟩⟩
   simp only at k
   rw [k] at o1
   omega
noncomputable def hGr {W H s : Int} {l : List Int} (g : Good W H s l) (hl : l.length ≤ 150) (f t : Cell) : LGr where
 n := l.length
 op := opH W H (gatesA W H s l) f t l.length
 legs := legsV W H s l (gatesA W H s l) f t
 lt v h := by
  unfold opH at h
  rw [Bool.and_eq_true, decide_eq_true_eq] at h
  exact h.1
 leg v h q hq := by
  obtain ⟨c, hc, rfl⟩ := (opH_iff g).1 h
  have hi := node_in g hc
  unfold legsV at hq
  rw [cellV_idx hi] at hq
  obtain ⟨p, hp, rfl⟩ := List.mem_map.1 hq
  obtain ⟨h1, h2, h3, h4, _⟩ := leg_ok g hl hi hp
  exact ⟨(opH_iff g).2 ⟨p.1, h1, rfl⟩, h3, h4⟩
open Classical in
noncomputable def wayB (W H s : Int) (l : List Int) (u v : Cell) : List Cell :=
 if ofN W s v.1 v.2 = ofN W s u.1 u.2 then (if h : ∃ (L : boxL W H s (ofN W s u.1 u.2) l) (p : List Nat), BackP (mapNet L) (farD L u) (idxN W v) p then ((Classical.choose (Classical.choose_spec h)).reverse.map (cellV W)).drop 1 else []) else [v]
theorem wayB_gate {W H s : Int} {l : List Int} {u v : Cell} (h : ofN W s v.1 v.2 ≠ ofN W s u.1 u.2) : wayB W H s l u v = [v] := by
 unfold wayB; rw [if_neg h]
theorem wayB_in {W H s : Int} {l : List Int} {u v : Cell} (h : ofN W s v.1 v.2 = ofN W s u.1 u.2) (L : boxL W H s (ofN W s u.1 u.2) l) {p : List Nat} (hp : BackP (mapNet L) (farD L u) (idxN W v) p) : wayB W H s l u v = (p.reverse.map (cellV W)).drop 1 := by
 unfold wayB
 have hx : ∃ (L : boxL W H s (ofN W s u.1 u.2) l) (p : List Nat), BackP (mapNet L) (farD L u) (idxN W v) p := ⟨L, p, hp⟩
 rw [if_pos h, dif_pos hx, (Classical.choose_spec (Classical.choose_spec hx)).one hp]
noncomputable def pathH (W H s : Int) (l : List Int) (f : Cell) (ch : List Nat) : List Cell := f :: pathT (fun u v => wayB W H s l (cellV W u) (cellV W v)) [] ch
def HSrch (W H s : Int) (l : List Int) (f t : Cell) (b : Int) (p : List Cell) (c k e : Int) : Prop :=
 (¬ (inB W H f.1 f.2 = true ∧ inB W H t.1 t.2 = true) ∧ p = [] ∧ c = 0 ∧ k = 0 ∧ e = 10) ∨
 ((inB W H f.1 f.2 = true ∧ inB W H t.1 t.2 = true) ∧ b < 0 ∧ p = [] ∧ c = 0 ∧ k = 0 ∧ e = 1) ∨
 ((inB W H f.1 f.2 = true ∧ inB W H t.1 t.2 = true) ∧ 0 ≤ b ∧ (costI l W f = 0 ∨ costI l W t = 0) ∧ p = [] ∧ c = 0 ∧ k = 0 ∧ e = 22) ∨
 ((inB W H f.1 f.2 = true ∧ inB W H t.1 t.2 = true) ∧ 0 ≤ b ∧ ¬ (costI l W f = 0 ∨ costI l W t = 0) ∧ ∃ (g : Good W H s l) (hl : l.length ≤ 150), LRun (hGr g hl f t) W (idxN W t) b (pathH W H s l f) (start0 (idxN W f)) p c k e)
theorem HSrch.one {W H s : Int} {l : List Int} {f t : Cell} {b : Int} {p p' : List Cell} {c c' k k' e e' : Int} (h : HSrch W H s l f t b p c k e) (h' : HSrch W H s l f t b p' c' k' e') : p = p' ∧ c = c' ∧ k = k' ∧ e = e' := by
 rcases h with ⟨h1, rfl, rfl, rfl, rfl⟩ | ⟨h1, h2, rfl, rfl, rfl, rfl⟩ | ⟨h1, h2, h3, rfl, rfl, rfl, rfl⟩ | ⟨h1, h2, h3, g, hl, h4⟩ <;>
  rcases h' with ⟨k1, rfl, rfl, rfl, rfl⟩ | ⟨k1, k2, rfl, rfl, rfl, rfl⟩ | ⟨k1, k2, k3, rfl, rfl, rfl, rfl⟩ | ⟨k1, k2, k3, g', hl', k4⟩ <;>
  first
   | exact ⟨rfl, rfl, rfl, rfl⟩
   | exact absurd k1 h1
   | exact absurd h1 k1
   | (exfalso; omega)
   | exact absurd h3 k3
   | exact absurd k3 h3
   | exact h4.one (by have := mayB_true.1 (checkE_ok.1 g.ok).1; omega) k4
end Go.Proofs.YtaellcgglldjaaaGreat

namespace Go.Proofs.YtaellcgglldjaaaGreat
open Go.RowKit
theorem gWay_any (k : Nat) (hk : k < 4) (w : World) : Calls Tryz.prog 181 #[.int .i64 (k : Int)] w fun e w' => e = .returned (.agg #[.int .i64 (dirX k), .int .i64 (dirY k)]) ∧ Ext w w' := by
 obtain rfl | rfl | rfl | rfl : k = 0 ∨ k = 1 ∨ k = 2 ∨ k = 3 := by omega
 ·go_enter Tryz.func181, Tryz.ntmps181
  go_wp2
  exact bodyPost_ret (v := .agg #[.int .i64 0, .int .i64 (-1)]) (by simp [results, Tryz.results181, go_sem, *]) rfl ⟨rfl, z_x⟩
 ·go_enter Tryz.func181, Tryz.ntmps181
  go_wp2
  exact bodyPost_ret (v := .agg #[.int .i64 1, .int .i64 0]) (by simp [results, Tryz.results181, go_sem, *]) rfl ⟨rfl, z_x⟩
 ·go_enter Tryz.func181, Tryz.ntmps181
  go_wp2
  exact bodyPost_ret (v := .agg #[.int .i64 0, .int .i64 1]) (by simp [results, Tryz.results181, go_sem, *]) rfl ⟨rfl, z_x⟩
 ·go_enter Tryz.func181, Tryz.ntmps181
  go_wp2
  exact bodyPost_ret (v := .agg #[.int .i64 (-1), .int .i64 0]) (by simp [results, Tryz.results181, go_sem, *]) rfl ⟨rfl, z_x⟩
theorem gNext_any (k : Nat) (hk : k < 4) (x y : Int) (hx : -1000000 ≤ x ∧ x ≤ 1000000) (hy : -1000000 ≤ y ∧ y ≤ 1000000) (w : World) : Calls Tryz.prog 157 #[.agg #[.int .i64 x, .int .i64 y], .int .i64 (k : Int)] w fun e w' => e = .returned (.agg #[.int .i64 (x + dirX k), .int .i64 (y + dirY k)]) ∧ Ext w w' := by
 have H1 := hide (fun w' => gWay_any k hk w')
 have hb := dir_bd k
 generalize dirX k = dx at *
 generalize dirY k = dy at *
 clear hk
 go_enter Tryz.func157, Tryz.ntmps157
 go_wp2_with (go_at_call 181; refine (H1.out _).mono ?_; rintro e w1 ⟨rfl, hb1⟩; obtain ⟨hc1, hf1⟩ := hb1.cells; have hz1 := hb1.size; (repeat (first | rw [World.size_alloc] at hz1 | rw [World.size_drew] at hz1)); have z1_0 : w.heap.size < w1.heap.size := (by omega); have z1_1 : w.heap.size + 1 < w1.heap.size := (by omega))
 exact bodyPost_ret (v := .agg #[.int .i64 (x + dx), .int .i64 (y + dy)]) (by simp [results, Tryz.results157, go_sem, *]) rfl ⟨rfl, z_x⟩
theorem gAround_any (x y : Int) (w : World) : Calls Tryz.prog 112 #[.agg #[.int .i64 x, .int .i64 y]] w fun e w' => e = .returned (.func (.func 156) #[] #[.pointer (some ⟨w.heap.size, 0, none⟩)]) ∧ w' = w.alloc (.cells #[.int .i64 x, .int .i64 y] 28) := by
 go_enter Tryz.func112, Tryz.ntmps112
 go_wp2
 go_ret
 exact ⟨rfl, rfl⟩
def fourC (x y : Int) : List (Int × Cell) := (List.range 4).map fun k : Nat => ((k : Int), (x + dirX k, y + dirY k))
theorem fourC_len (x y : Int) : (fourC x y).length = 4 := by simp [fourC]
theorem fourC_at (x y : Int) {k : Nat} (hk : k < 4) : (fourC x y)[k]? = some ((k : Int), (x + dirX k, y + dirY k)) := by
 unfold fourC
 rw [List.getElem?_map, List.getElem?_range hk]
 rfl
theorem fourC_take (x y : Int) {k : Nat} (hk : k < 4) : (fourC x y).take (k + 1) = (fourC x y).take k ++ [((k : Int), (x + dirX k, y + dirY k))] := by
 have h := fourC_at x y hk
 have hl : k < (fourC x y).length := by rw [fourC_len]; exact hk
 rw [List.take_add_one, h]
 rfl
def dcV (q : Int × Cell) : Array Value := #[.int .i64 q.1, .agg #[.int .i64 q.2.1, .int .i64 q.2.2]]
theorem gAround1_iter {w : World} {x y : Int} (hx : -1000000 ≤ x ∧ x ≤ 1000000) (hy : -1000000 ≤ y ∧ y ≤ 1000000) {bc : Nat} {R : Nat → Prop} (B : Blk w bc 28 #[.int .i64 x, .int .i64 y]) (Rb : R bc) (hR : ∀ k, R k → k < w.heap.size) :
  IterX Tryz.prog 156 #[.pointer (some ⟨bc, 0, none⟩)] dcV (fourC x y) R w := by
 intro lp J W0 hx0 hA hE hS hY hJ0
 have HE := hide hE
 have HY := hide hY
 have HJ0 := hide hJ0
 have B0 := hide (B.ext hx0)
 have zbc := B0.out.lt
 clear hA hE hS hY hJ0 B hR hx0
 show Calls Tryz.prog 156 #[.func (.yield lp) #[] #[], .pointer (some ⟨bc, 0, none⟩)] W0 _
 go_enter Tryz.func156, Tryz.ntmps156
 go_wp2
 go_loopw [3] (fun s3 wr => ∃ (k : Nat) (T : Nat → Prop), k ≤ 4 ∧ s3 = .int .i64 (k : Int) ∧ J T ((fourC x y).take k) wr ∧ Touch (fun j => ¬ R j) W0 wr) (fun s3 _ => 4 - (intOf s3).toNat)
 case atStart => exact ⟨0, fun _ => False, by omega, rfl, HJ0.out, Touch.refl _ _⟩
 case round =>
  obtain ⟨k, T, hk, rfl, hJ, ht⟩ := hrel
  have J1 := hide hJ
  have T1 := hide ht
  have B1 := hide (B0.out.touch ht (fun h => h Rb))
  have q0 := B1.out.at 0 rfl; have q1 := B1.out.at 1 rfl; have qz := B1.out.lt
  clear hJ ht
  by_cases hlt : k < 4
  ·have HN := hide (fun w' => gNext_any k hlt x y hx hy w')
   have hd : decide ((k : Int) ≤ 3) = true := by simp; omega
   have hpre : (fourC x y).take k ++ [((k : Int), (x + dirX k, y + dirY k))] <+: fourC x y := by rw [← fourC_take x y hlt]; exact List.take_prefix _ _
   have HPRE := hide hpre
   clear hpre
   refine (wpIn_wide (n := 4)).1 ?_
   gi_wp2_with (first
    | (refine ⟨trivial, ?_⟩; gi_at_call 157; refine (callsIn_wide.2 (HN.out _)).mono ?_; rintro e w2 ⟨rfl, hb2⟩; obtain ⟨fn, tmps, assign, body, hyy, hRR⟩ := HY.out T _ _ w2 (HE.out _ _ _ _ J1.out hb2) HPRE.out; have HRR := hide hRR; have HB2 := hide hb2; clear hRR hb2; unfold dcV at hyy)
    | (refine HRR.out.mono ?_; rintro e w3 ⟨rfl, hJ3, ht3⟩; have J3 := hide hJ3; have T3 := hide (T1.out.trans ((Touch.of_ext HB2.out).trans (ht3.mono (fun j _ h => h.2)))); clear hJ3 ht3 hyy HRR))
   go_roundw
   case rel => exact ⟨k + 1, T, by omega, by go_num, by rw [fourC_take x y hlt]; exact J3.out, T3.out⟩
   case measure => simp [intOf]; omega
  ·obtain rfl : k = 4 := by omega
   have J4 : Hid (J T (fourC x y) wr) := hide (by
    have h := J1.out
    rw [List.take_of_length_le (by rw [fourC_len]; exact Nat.le_refl _)] at h
    exact h)
   clear J1
   go_wp2_with fail
   go_end0
   exact ⟨⟨_, rfl⟩, T, J4.out⟩
end Go.Proofs.YtaellcgglldjaaaGreat

