/- Walks of slices.Reverse and slices.IndexFunc over cells; A cell's place, as a cell -/
import Derived.Test.YtkioohhjjdlhiaaGreatFloodC
import Derived.BigRegion
import Derived.Stop.RegionWithIn
import Derived.Shelf.Abstract
set_option linter.all false
set_option linter.unusedVariables false
set_option linter.unusedSimpArgs false
namespace Go.Proofs.YtkioohhjjdlhiaaGreat
open Go.RowKit

set_option maxHeartbeats 1000000 in
theorem idxCell_any {w : World} {sb : Nat} {m cap f : Nat} {caps : Array Value} {L : List Cell} {p : Cell → Bool} {base k0 : Nat} (hL : L.length = m) (hm : m ≤ 1000) (hv : Own cellE w base 69 (.slice (some ⟨sb, 0, none⟩) m cap) L)
  (hp : ∀ w', Ext w w' → ∀ q, q ∈ L → Calls Tryz.prog f (#[.agg #[.int .i64 q.1, .int .i64 q.2]] ++ caps) w' fun e w2 => e = .returned (.bool (p q)) ∧ Ext w' w2)
  (eg : ∀ args w, (callFunc f args).run Tryz.prog w = .ok (.enter f args) w)
  (hk : k0 < m) (hyes : ∀ q, L[k0]? = some q → p q = true) (hno : ∀ j q, j < k0 → L[j]? = some q → p q = false) :
  Calls Tryz.prog 159 #[.slice (some ⟨sb, 0, none⟩) m cap, .func (.func f) #[] caps] w fun e w' => e = .returned (.int .i64 k0) ∧ Ext w w' := by
 have HV := hide hv
 have HP := hide hp
 have HY := hide hyes
 have HNO := hide hno
 have HL := hide hL
 have zb := (own_lt hv rfl).2
 clear hv hp hyes hno hL
 go_enter Tryz.func159, Tryz.ntmps159
 go_wp2
 go_loopw [8] (fun i wr => ∃ k : Nat, k ≤ k0 ∧ i = .int .i64 k ∧ Ext w wr) (fun i _ => m - (intOf i).toNat)
 case atStart => exact ⟨0, Nat.zero_le _, rfl, Ext.refl _⟩
 case round =>
  obtain ⟨k, hkk, rfl, hext⟩ := hrel
  have hz := hext.size
  have hkm : k < m := by omega
  obtain ⟨q, hq⟩ : ∃ q, L[k]? = some q := ⟨_, List.getElem?_eq_getElem (by rw [HL.out]; exact hkm)⟩
  obtain ⟨d0, d1, _⟩ := cell_cells (HV.out.ext hext) hq
  have hki : (k : Int) < (m : Int) := by omega
  have HQ := hide (fun w' (hx : Ext wr w') => HP.out w' (hext.trans hx) q (List.mem_of_getElem? hq))
  have zr : sb < wr.heap.size := by omega
  by_cases hlt : k < k0
  ·have hf := HNO.out k q hlt hq
   rw [hf] at HQ
   clear hq hf
   go_wp2_with fail
   refine (HQ.out _ (Ext.refl _)).mono ?_
   rintro e w2 ⟨rfl, hb2⟩
   go_wp2
   go_roundw
   case rel => exact ⟨k + 1, by omega, by go_num, hext.trans hb2⟩
   case measure => simp [intOf]; omega
  ·obtain rfl : k = k0 := by omega
   have hf := HY.out q hq
   rw [hf] at HQ
   clear hq hf
   go_wp2_with fail
   refine (HQ.out _ (Ext.refl _)).mono ?_
   rintro e w2 ⟨rfl, hb2⟩
   go_wp2
   go_ret
   exact ⟨rfl, hext.trans hb2⟩

/-- What a list is when m pairs of its cells, from both ends, have changed places. -/
def RevAt (l L : List Cell) (m : Nat) : Prop := L.length = l.length ∧ ∀ q, q < l.length → L[q]? = if q < m ∨ l.length - m ≤ q then l[l.length - 1 - q]? else l[q]?
theorem rev_start (l : List Cell) : RevAt l l 0 := ⟨rfl, fun q hq => by rw [if_neg (by omega)]⟩
theorem rev_end {l L : List Cell} {m : Nat} (h : RevAt l L m) (hm : l.length ≤ 2 * m + 1) : L = l.reverse := by
 apply List.ext_getElem?
 intro q
 by_cases hq : q < l.length
 ·rw [h.2 q hq, List.getElem?_reverse hq]
  split
  ·rfl
  ·have : q = l.length - 1 - q := by omega
   rw [← this]
 ·rw [List.getElem?_eq_none (by rw [h.1]; omega), List.getElem?_eq_none (by simp; omega)]
theorem rev_step {l L : List Cell} {m : Nat} (h : RevAt l L m) (hm : 2 * m + 1 < l.length) {p q : Cell} (hp : L[m]? = some p) (hq : L[l.length - 1 - m]? = some q) : RevAt l ((L.set m q).set (l.length - 1 - m) p) (m + 1) := by
 have e1 := h.2 m (by omega)
 have e2 := h.2 (l.length - 1 - m) (by omega)
 rw [if_neg (by omega), hp] at e1
 rw [if_neg (by omega), hq] at e2
 refine ⟨by simp [h.1], fun k hk => ?_⟩
 rw [List.getElem?_set, List.getElem?_set, List.length_set, h.1]
 by_cases a : l.length - 1 - m = k
 ·subst a
  rw [if_pos rfl, if_pos (by omega), if_pos (by omega), show l.length - 1 - (l.length - 1 - m) = m by omega, e1]
 ·rw [if_neg a]
  by_cases b : m = k
  ·subst b
   rw [if_pos rfl, if_pos (by omega), if_pos (by omega), e2]
  ·rw [if_neg b, h.2 k hk]
   by_cases d : k < m ∨ l.length - m ≤ k
   ·rw [if_pos d, if_pos (by omega)]
   ·rw [if_neg d, if_neg (by omega)]

set_option maxRecDepth 100000 in
set_option maxHeartbeats 2000000 in
theorem revCell_any {w : World} {g c base n : Nat} {l : List Cell} (hl : l.length = n) (h1 : 1 ≤ n) (hn : n ≤ 100000) (hv : Own cellE w base 69 (.slice (some ⟨g, 0, none⟩) n c) l) :
  Calls Tryz.prog 108 #[.slice (some ⟨g, 0, none⟩) n c] w fun e w' => e = .returned (.tuple #[]) ∧ Own cellE w' base 69 (.slice (some ⟨g, 0, none⟩) n c) l.reverse ∧ Touch (fun k => k = g) w w' := by
 have HV := hide hv
 have HL := hide hl
 clear hv hl
 go_enter Tryz.func108, Tryz.ntmps108
 go_wp2
 go_loopw [2, 3] (fun i j wr => ∃ (m : Nat) (L : List Cell), 2 * m ≤ n ∧ i = .int .i64 m ∧ j = .int .i64 ((n : Int) - 1 - (m : Int)) ∧ RevAt l L m ∧ Own cellE wr base 69 (.slice (some ⟨g, 0, none⟩) n c) L ∧ Touch (fun k => k = g) w wr) (fun i _ _ => n - (intOf i).toNat)
 case atStart => exact ⟨0, l, by omega, rfl, by go_num, rev_start l, HV.out, Touch.refl _ _⟩
 case round =>
  obtain ⟨m, L, hmn, rfl, rfl, hrev, hown, ht⟩ := hrel
  have R := hide hrev
  have O := hide hown
  have T := hide ht
  have hLn : L.length = n := by rw [hrev.1, HL.out]
  have HLn := hide hLn
  by_cases hlt : 2 * m + 1 < n
  ·obtain ⟨j, hj⟩ : ∃ j, j = n - 1 - m := ⟨_, rfl⟩
   have hji : (n : Int) - 1 - (m : Int) = (j : Int) := by omega
   obtain ⟨⟨px, py⟩, hp⟩ : ∃ p, L[m]? = some p := ⟨_, List.getElem?_eq_getElem (by omega)⟩
   obtain ⟨⟨qx, qy⟩, hq⟩ : ∃ q, L[j]? = some q := ⟨_, List.getElem?_eq_getElem (by omega)⟩
   obtain ⟨a0, a1, zg⟩ := cell_cells hown hp
   obtain ⟨b0, b1, _⟩ := cell_cells hown hq
   have h' : wr.ownsRow base 69 2 (.slice (some ⟨g, 0, none⟩) n c) L.length (L.flatMap cellE.cells) := hown
   rw [hLn] at h'
   have f0 := h'.frozenAt (m * 2)
   have f1 := h'.frozenAt (m * 2 + 1)
   have f2 := h'.frozenAt (j * 2)
   have f3 := h'.frozenAt (j * 2 + 1)
   have hst := hide (rev_step (p := (px, py)) (q := (qx, qy)) hrev (by rw [HL.out]; exact hlt) hp (by rw [HL.out, ← hj]; exact hq))
   obtain ⟨w1, hw1⟩ : ∃ w1, w1 = setRun (setRun wr g (m * 2) (cellE.cells (qx, qy))) g (j * 2) (cellE.cells (px, py)) := ⟨_, rfl⟩
   have o1 : Own cellE w1 base 69 (.slice (some ⟨g, 0, none⟩) n c) ((L.set m (qx, qy)).set j (px, py)) := by
    rw [hw1]
    exact (hown.turn (i := m) (by omega) (qx, qy)).turn (i := j) (by rw [List.length_set]; omega) (px, py)
   have t1 : Touch (fun k => k = g) wr w1 := by
    rw [hw1]
    exact (setRun_touch g _ _ _).trans (setRun_touch g _ _ _)
   have O1 := hide o1
   have T1 := hide (ht.trans t1)
   have HW1 := hide hw1
   have HJ := hide hj
   have hne : m ≠ j := by omega
   have m1 : (m : Int) < (n : Int) := by omega
   have m2 : (j : Int) < (n : Int) := by omega
   have m3 : (m : Int) < (j : Int) := by omega
   have hjb : m + 1 ≤ j := by omega
   rw [hji]
   have HLT := hide hlt
   clear hrev hown ht hLn hp hq h' hw1 o1 t1 hj hji hmn hlt
   simp only at a0 a1 b0 b1
   go_wp2
   go_region
   rw [show (((wr.setCell ⟨g, m * 2, none⟩ (.int .i64 qx)).setCell ⟨g, m * 2 + 1, none⟩ (.int .i64 qy)).setCell ⟨g, j * 2, none⟩ (.int .i64 px)).setCell ⟨g, j * 2 + 1, none⟩ (.int .i64 py) = w1 from HW1.out.symm]
   clear a0 a1 b0 b1 f0 f1 f2 f3
   go_wp2
   go_roundw
   case rel => exact ⟨m + 1, (L.set m (qx, qy)).set j (px, py), by (have := HLT.out; omega), by go_num, by (have := HJ.out; congr 1; push_cast; omega), by rw [HL.out, ← HJ.out] at hst; exact hst.out, O1.out.drew, T1.out.drew⟩
   case measure => simp [intOf]; omega
  ·have hd : decide ((m : Int) < (n : Int) - 1 - (m : Int)) = false := by simp; omega
   have he := rev_end hrev (by rw [HL.out]; omega)
   subst he
   clear hrev hown ht hlt hLn HLn R
   go_wp2
   go_end0
   exact ⟨rfl, O.out, T.out⟩

def cellV (W : Int) (v : Nat) : Cell := (vx W v, vy W v)

theorem Row16.touch {S : Nat → Prop} {w w' : World} {a : Option Addr} {l : List Int} (h : Row16 w a l) (e : Touch S w w') (hs : ∀ b off, a = some ⟨b, off, none⟩ → ¬ S b) : Row16 w' a l := fun h0 => by
 obtain ⟨b, off, ha, hb, hc⟩ := h h0
 exact ⟨b, off, ha, Nat.lt_of_lt_of_le hb e.size, fun k hk => (e.cell (p := ⟨b, off + k, none⟩) hb (hs b off ha)).trans (hc k hk)⟩
end Go.Proofs.YtkioohhjjdlhiaaGreat
