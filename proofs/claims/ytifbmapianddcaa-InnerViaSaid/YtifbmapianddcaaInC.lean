/- Walk of far. -/
import Derived.Test.YtifbmapianddcaaInB
import Derived.Shelf.Abstract
set_option linter.all false
set_option linter.unusedVariables false
set_option linter.unusedSimpArgs false
namespace Go.Proofs.Ytifbmapianddcaa
open Go.RowKit

set_option maxRecDepth 100000 in
theorem iFar_bad {w : World} (W H : Int) (a : Option Addr) (n c : Nat) (bx byy bw bh x y : Int) (ca : Option Addr) (cn cc : Nat) (he : lookE W H n bx byy bw bh x y ≠ 0) :
    Calls Try.prog 77 #[.agg #[.int .i64 W, .int .i64 H, .slice a n c, .int .i64 bx, .int .i64 byy, .int .i64 bw, .int .i64 bh], .agg #[.int .i64 x, .int .i64 y], .slice ca cn cc] w fun e w' => e = .returned (.tuple #[.slice none 0 0, .int .i64 (lookE W H n bx byy bw bh x y)]) ∧ Ext w w' := by
  have H1 := hide (fun (w' : World) => fWithin_bad (w := w') W H a n c bx byy bw bh x y he)
  generalize lookE W H n bx byy bw bh x y = er at *
  have hb : (er != 0) = true := by simpa using he
  clear he
  go_enter Try.func77, Try.ntmps77
  go_wp2_with fail
  refine (H1.out _).mono ?_
  rintro e w1 ⟨rfl, hb1⟩
  go_wp2_with fail
  go_ret2
  exact ⟨rfl, (by (with_reducible (repeat' (first | exact Ext.refl _ | assumption | refine Ext.drew ?_ | refine Ext.drewN ?_ _ | refine Ext.alloc ?_ _ | refine Ext.setCell ?_ ?_ _ | refine Ext.trans ?_ (by assumption)))); all_goals (first | (simp; done) | (simp; omega)))⟩

set_option maxRecDepth 100000 in
theorem iFar_ok {w : World} {W H : Int} {a : Option Addr} {l : List Int} {bx byy bw bh : Int} (L : LandP W H l bx byy bw bh) (c : Nat) (p : Cell) (hp : hasB bx byy bw bh p.1 p.2 = true) {ca : Option Addr} {cs : List Cell} (cc : Nat) (hcs : ∀ q, q ∈ cs → hasB bx byy bw bh q.1 q.2 = true) (hl : cs.length ≤ 1000000) (hr : Row16 w a l) (hc : RowC w ca cs) :
    Calls Try.prog 77 #[.agg #[.int .i64 W, .int .i64 H, .slice a l.length c, .int .i64 bx, .int .i64 byy, .int .i64 bw, .int .i64 bh], .agg #[.int .i64 p.1, .int .i64 p.2], .slice ca cs.length cc] w fun e w' => ∃ s : Option Addr × Nat × Nat, e = .returned (.tuple #[.slice s.1 s.2.1 s.2.2, .int .i64 0]) ∧ Ext w w' ∧ Own u64E w' w.heap.size 38 (.slice s.1 s.2.1 s.2.2) (rowD L cs p) := by
  obtain ⟨x, y⟩ := p
  have he : lookE W H l.length bx byy bw bh x y = 0 := lookE_ok.2 ⟨L.may, L.len, L.fits, hp⟩
  obtain ⟨G, hG⟩ : ∃ G, mapNet L = G := ⟨_, rfl⟩
  have H1 : Hid (∀ w', Ext w w' → Calls Try.prog 64 #[.agg #[.int .i64 W, .int .i64 H, .slice a l.length c], .agg #[.int .i64 bx, .int .i64 byy, .int .i64 bw, .int .i64 bh], .agg #[.int .i64 x, .int .i64 y]] w' fun e w'' =>
      ∃ v far, e = .returned (.tuple #[v, .int .i64 0]) ∧ Ext w' w'' ∧ Own u64E w'' w'.heap.size 38 v (farL far l.length) ∧ IsFar G (idxN W (x, y)) far ∧ FarLow G far) := hide (fun w' hx => by have h := fWithin_ok (w := w') c he (hr.ext hx) L.u16; rw [← hG]; exact h)
  have LL := hide L
  have HC := hide hc
  have HCS := hide hcs
  have hn1 : 1 ≤ l.length := by have := L.idx_lt (L.in_ hp); omega
  have HDI : Hid (∀ (D : Nat → Int) (_ : IsFar G (idxN W (x, y)) D) (v : Nat), D v = farD L (x, y) v) := hide (by rw [← hG]; exact fun D F v => farD_one L F v)
  clear hG
  obtain ⟨n, hnn⟩ : ∃ z, l.length = z := ⟨_, rfl⟩
  have HN := hide hnn
  rw [hnn] at H1 hn1 ⊢
  obtain ⟨m, hmm⟩ : ∃ z, cs.length = z := ⟨_, rfl⟩
  have HM := hide hmm
  rw [hmm] at hl ⊢
  clear hr hc hcs hp hnn hmm
  clear he
  simp only
  go_enter Try.func77, Try.ntmps77
  go_wp2_with fail
  refine (H1.out _ (by (with_reducible (repeat' (first | exact Ext.refl _ | assumption | refine Ext.drew ?_ | refine Ext.drewN ?_ _ | refine Ext.alloc ?_ _ | refine Ext.setCell ?_ ?_ _ | refine Ext.trans ?_ (by assumption)))); all_goals (first | (simp; done) | (simp; omega)))).mono ?_
  rintro e w1 ⟨v, far, rfl, hb1, hv, F, _⟩
  have BP1 : Hid (Blk w1 (w.heap.size) 134 #[.int .i64 W, .int .i64 H, .slice a n c, .int .i64 bx, .int .i64 byy, .int .i64 bw, .int .i64 bh]) := hide (by refine Blk.ext ?_ hb1; (repeat' (first | exact Blk.new_ (by simp) | refine Blk.drew ?_ | refine Blk.over ?_)))
  have hx1 : Ext w w1 := (by (with_reducible (repeat' (first | exact Ext.refl _ | assumption | refine Ext.drew ?_ | refine Ext.drewN ?_ _ | refine Ext.alloc ?_ _ | refine Ext.setCell ?_ ?_ _ | refine Ext.trans ?_ (by assumption)))); all_goals (first | (simp; done) | (simp; omega)))
  have HX1 := hide hx1
  have FD := hide (HDI.out far F)
  obtain ⟨g, vc, hvg⟩ := own_u64 hv (by rw [farL_len]; omega)
  rw [farL_len] at hvg
  subst hvg
  have FA := hide (show FarAt w1 _ g vc far n from hv)
  clear hv F hb1 hx1
  go_wp2_with fail
  obtain ⟨w2, hw2⟩ : ∃ w2, w2 = w1.alloc (.cells #[.slice (some ⟨g, 0, none⟩) n vc] 33) := ⟨_, rfl⟩
  have hx2 : Ext w1 w2 := by rw [hw2]; exact (Ext.refl _).alloc _
  have AB := hide (show Blk w2 w1.heap.size 33 #[.slice (some ⟨g, 0, none⟩) n vc] by rw [hw2]; exact Blk.new_ rfl)
  have BP2 := hide (Blk.ext BP1.out hx2)
  have FA2 := hide (FA.out.ext hx2)
  have HX2 := hide (HX1.out.trans hx2)
  have HC2 := hide (HC.out.ext HX2.out)
  rw [← hw2]
  clear hw2 hx2 BP1 FA HX1 HC H1
  have HE := eachU64_any (w := w2) (f := 126) (caps := #[.pointer (some ⟨w1.heap.size, 0, none⟩), .pointer (some ⟨w.heap.size, 0, none⟩)]) (g := fun q => farD LL.out (x, y) (idxN W q)) cc (by rw [HM.out]; exact hl) HC2.out
    (fun w' hx q hq => by
      have h := iFar1_any (w := w') LL.out (a := a) (c := c) (ab := w1.heap.size) (pb := w.heap.size) (g := g) (vc := vc) (D := far) q (HCS.out q hq) (by rw [HN.out]; exact (Blk.ext AB.out hx).at 0 rfl) (by rw [HN.out]; exact Blk.ext BP2.out hx) (by rw [HN.out]; exact FA2.out.ext hx)
      rw [FD.out] at h
      exact h)
    (enters_of Try.func126 (by kernel_rfl) rfl)
  rw [HM.out] at HE
  refine HE.mono ?_
  rintro e w3 ⟨v3, rfl, hx3, ho3⟩
  obtain ⟨sa, sc, hs3⟩ := ho3.slice
  rw [List.length_map] at hs3
  subst hs3
  have O3 := hide ho3
  have X3 := hide hx3
  have z2 := HX2.out.size
  clear ho3 hx3 HE
  go_wp2_with fail
  go_ret2
  exact ⟨(sa, _, sc), rfl, HX2.out.trans X3.out, O3.out.lower (by omega)⟩
end Go.Proofs.Ytifbmapianddcaa
