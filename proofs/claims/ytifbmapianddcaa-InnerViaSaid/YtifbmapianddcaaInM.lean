/- Walk of the reference's Row, of chapter 13. -/
import Derived.Test.YtifbmapianddcaaFarW
import Derived.Test.YtifbmapianddcaaInL
import Derived.Test.YtifbmapianddcaaInC
import Derived.Test.YtifbmapianddcaaLib
set_option linter.all false
set_option linter.unusedVariables false
set_option linter.unusedSimpArgs false
namespace Go.Proofs.Ytifbmapianddcaa
open Go.RowKit

set_option maxRecDepth 100000 in
set_option maxHeartbeats 2000000 in
theorem r13Row_any {w : World} {W H : Int} {a : Option Addr} {l : List Int} {bx byy bw bh : Int} (L : LandP W H l bx byy bw bh) (c : Nat) (p : Cell) (he : lookE W H l.length bx byy bw bh p.1 p.2 = 0) {ca : Option Addr} {cs : List Cell} (cc : Nat) (hcs : ∀ q, q ∈ cs → hasB bx byy bw bh q.1 q.2 = true) (hl : cs.length ≤ 1000000) (hr : Row16 w a l) (hu : U16s l) (hc : RowC w ca cs) :
    Calls Try.prog 34 #[.agg #[.int .i64 W, .int .i64 H, .slice a l.length c], .agg #[.int .i64 bx, .int .i64 byy, .int .i64 bw, .int .i64 bh], .agg #[.int .i64 p.1, .int .i64 p.2], .slice ca cs.length cc] w fun e w' => ∃ v, e = .returned v ∧ Ext w w' ∧ Own u64E w' w.heap.size 38 v (rowD L cs p) := by
  obtain ⟨x, y⟩ := p
  have HF := hide (fun (w' : World) (hx : Ext w w') => rFar_any (w := w') (c := c) he (hr.ext hx) hu (D := farD L (x, y)) (farD_is L (x, y)))
  have HLP := hide L
  have HCS := hide hcs
  have HC := hide hc
  have wh := L.wh
  obtain ⟨n, hnn⟩ : ∃ z, l.length = z := ⟨_, rfl⟩
  obtain ⟨m, hmm⟩ : ∃ z, cs.length = z := ⟨_, rfl⟩
  have HN := hide hnn
  have HM := hide hmm
  obtain ⟨D, hD⟩ : ∃ D, farD L (x, y) = D := ⟨_, rfl⟩
  have HD := hide hD
  have hn1 : 0 < n := by have := L.idx_lt (L.in_ (lookE_ok.1 he).2.2.2); omega
  rw [hD, hnn] at HF
  rw [hnn] at wh ⊢
  rw [hmm] at hl ⊢
  clear he hr hu hc hcs hnn hmm hD
  go_enter Try.func34, Try.ntmps34
  go_wp2_with fail
  refine (HF.out _ (by (with_reducible (repeat' (first | exact Ext.refl _ | assumption | refine Ext.drew ?_ | refine Ext.drewN ?_ _ | refine Ext.alloc ?_ _ | refine Ext.setCell ?_ ?_ _ | refine Ext.trans ?_ (by assumption)))); all_goals (first | (simp; done) | (simp; omega)))).mono ?_
  rintro e w1 ⟨v1, rfl, hb1, ho1⟩
  obtain ⟨g, gc, rfl, hg1, hg2⟩ := ho1.pos (by rw [farL_len]; exact hn1)
  rw [farL_len] at ho1 ⊢
  have B0 : Hid (Blk w1 (w.heap.size) 26 #[.int .i64 W, .int .i64 H, .slice a n c]) := hide (by refine Blk.ext ?_ hb1; (repeat' (first | exact Blk.new_ (by simp) | refine Blk.drew ?_ | refine Blk.over ?_)))
  have hx1 : Ext w w1 := (by (with_reducible (repeat' (first | exact Ext.refl _ | assumption | refine Ext.drew ?_ | refine Ext.drewN ?_ _ | refine Ext.alloc ?_ _ | refine Ext.setCell ?_ ?_ _ | refine Ext.trans ?_ (by assumption)))); all_goals (first | (simp; done) | (simp; omega)))
  have FA := hide (show FarAt w1 (w.heap.size + 3) g gc D n from ho1.lower (base' := w.heap.size + 3) (by simp))
  have HX1 := hide hx1
  have hz1 := hx1.size
  clear hb1 ho1 hx1
  go_wp2_with fail
  obtain ⟨w2, hw2⟩ : ∃ w2, w2 = w1.alloc (.cells #[] 38) := ⟨_, rfl⟩
  have O2 := hide (show Own u64E w2 w1.heap.size 38 (.slice (some ⟨w1.heap.size, 0, none⟩) 0 0) [] by rw [hw2]; exact Own.lit0 u64E w1 _ _ _ rfl (Nat.le_refl _))
  have hx2 : Ext w1 w2 := by rw [hw2]; exact (Ext.refl _).alloc _
  have HX2 := hide hx2
  rw [← hw2]
  clear hw2 hx2
  go_wp2_with fail
  go_loopw [10, 11] (fun ov iv wr => ∃ k : Nat, k ≤ m ∧ iv = .int .i64 k ∧ Own u64E wr w1.heap.size 38 ov ((cs.take k).map (fun q => D (idxN W q))) ∧ Ext w1 wr) (fun _ iv _ => m - (intOf iv).toNat)
  case atStart => exact ⟨0, Nat.zero_le _, rfl, O2.out, HX2.out⟩
  case round =>
    obtain ⟨k, hk, rfl, ho, hxx⟩ := hrel
    have HO := hide ho
    have HXX := hide hxx
    have hzr := hxx.size
    have B0r := hide (Blk.ext B0.out hxx)
    by_cases hlt : k < m
    · obtain ⟨q, hq⟩ : ∃ q, cs[k]? = some q := ⟨_, List.getElem?_eq_getElem (by rw [HM.out]; exact hlt)⟩
      obtain ⟨b, off, rfl, hb, hcc⟩ := HC.out (by rw [HM.out]; omega)
      obtain ⟨hkl, hql⟩ := List.getElem?_eq_some_iff.1 hq
      have h1 := hcc k hkl
      rw [hql] at h1
      have hin := HLP.out.in_ (HCS.out q (List.mem_of_getElem? hq))
      obtain ⟨qx, qy⟩ := q
      have hxw := HX1.out.trans hxx
      have d0 := (hxw.cell (p := ⟨b, off + k * 2, none⟩) hb).trans h1.1
      have d1 := (hxw.cell (p := ⟨b, off + k * 2 + 1, none⟩) hb).trans h1.2
      have hbw : b < wr.heap.size := Nat.lt_of_lt_of_le hb hxw.size
      have hsn := HLP.out.idx_lt hin
      rw [HN.out] at hsn
      have hsi := idx_int (W := W) hin.1 (by omega) hin.2.2.1
      have m0 := mul_bd (a := qy) (b := W) (A := 256) (B := 256) (by omega) (by omega) (by omega) (by omega)
      have k1 : IntKind.i64.wrap (qy * W) = qy * W := IntWalk.i64_in _ (by omega)
      have k2 : IntKind.i64.wrap (qy * W + qx) = ((idxN W (qx, qy) : Nat) : Int) := by rw [hsi]; exact IntWalk.i64_in _ (by omega)
      have HT := hide (take_map cs (fun q => D (idxN W q)) hq)
      have hs0 := ((FA.out.ext hxx).cell hsn).1
      have gz := ((FA.out.ext hxx).lt).2
      have HPL : Hid (((cs.take k).map (fun q => D (idxN W q))).length = k) := hide (by rw [List.length_map, List.length_take, HM.out]; omega)
      have HMN : Hid (min k cs.length = k) := hide (by rw [HM.out]; omega)
      obtain ⟨ou, oc, hov⟩ := HO.out.slice
      subst hov
      rw [HPL.out] at HO ⊢
      obtain ⟨s, hs⟩ : ∃ s, idxN W (qx, qy) = s := ⟨_, rfl⟩
      have HS := hide hs
      rw [hs] at hsn k2 hs0
      have jk : (k : Int) < (m : Int) := by omega
      have js : (s : Int) < (n : Int) := by omega
      have u0 := B0r.out.at 0 rfl; have u1 := B0r.out.at 1 rfl; have u2 := B0r.out.at 2 rfl; have uz := B0r.out.lt
      clear ho hxx hq hcc hkl hql h1 hin hsi m0 hxw hs
      go_wp2_with fail
      go_region_law (refine step_app_drew u64E T_u64s rfl _ _ rfl w1.heap.size _ _ _ rfl HO.out (D s) _ _ rfl _ rfl rfl (by rw [HPL.out]; omega) (by rw [HPL.out]; omega) (by omega) ?_; intro g9 c9 w9 o9 t9 l9; have O9 := hide o9; have X9 := hide (((Touch.of_ext (S := fun _ => False) HXX.out).after t9 (fun k hk h => by have := (own_lt HO.out (k := k) h).1; omega)).ext); clear o9 t9 l9)
      all_goals
        try go_wp2_with fail
        go_roundw
        case rel => exact ⟨k + 1, hlt, by go_num, by have h := O9.out; rw [HPL.out] at h; rw [HT.out]; try rw [HMN.out]; show Own _ _ _ _ _ (_ ++ [D (idxN W (qx, qy))]); rw [HS.out]; exact h, X9.out⟩
        case measure => simp [intOf]; omega
    · obtain rfl : k = m := by omega
      go_wp2_with fail
      go_ret
      exact ⟨_, rfl, HX1.out.trans HXX.out, by have h := HO.out.lower HX1.out.size; rw [List.take_of_length_le (by rw [HM.out]; exact Nat.le_refl _), ← HD.out] at h; exact h⟩
end Go.Proofs.Ytifbmapianddcaa
