/- The law InnerTo, as it is said. -/
import Derived.Test.YtifbmapianddcaaInA
import Derived.Test.YtifbmapianddcaaInP
import Derived.Test.YtifbmapianddcaaFloodE
import Derived.Lib.SliceRun
import Derived.Shelf.Abstract
import Derived.Test.YtifbmapianddcaaPartB
import Derived.Test.YtifbmapianddcaaLib
import Derived.WalkMore
import Derived.Test.YtifbmapianddcaaRefC
import Derived.Test.YtifbmapianddcaaFarW
import Derived.Test.YtifbmapianddcaaStepB
import Derived.Test.YtifbmapianddcaaBox
import Derived.Test.YtifbmapianddcaaCells
import Derived.Test.YtifbmapianddcaaRefA
import Derived.ProofKit
import Derived.OpenShut
import Derived.ShutString
import Derived.ChangeOld
import Derived.Test.YtifbmapianddcaaField
import Derived.Deep.Slices
import Derived.Test.YtifbmapianddcaaRowC
set_option linter.all false
set_option linter.unusedVariables false
set_option linter.unusedSimpArgs false
/- Walks of layer 13: far, and what it calls. -/
namespace Go.Proofs.Ytifbmapianddcaa
open Go.RowKit

set_option maxRecDepth 100000 in
theorem iRises_any (p q : Cell) (w : World) : Calls Try.prog 125 #[.agg #[.int .i64 p.1, .int .i64 p.2], .agg #[.int .i64 q.1, .int .i64 q.2]] w fun e w' => e = .returned (.bool (riseB p q)) ∧ Ext w w' := by
  obtain ⟨px, py⟩ := p
  obtain ⟨qx, qy⟩ := q
  have e0 : riseB (px, py) (qx, qy) = (decide (py < qy) || (decide (qy = py) && decide (px < qx))) := rfl
  rw [e0]
  clear e0
  simp only
  go_enter Try.func125, Try.ntmps125
  go_wp2
  all_goals go_ret
  all_goals exact ⟨by simp [*] <;> omega, (by (with_reducible (repeat' (first | exact Ext.refl _ | assumption | refine Ext.drew ?_ | refine Ext.drewN ?_ _ | refine Ext.alloc ?_ _ | refine Ext.setCell ?_ ?_ _ | refine Ext.trans ?_ (by assumption)))); all_goals (first | (simp; done) | (simp; omega)))⟩

/-- append of a slice without elements to an empty row. -/
theorem wpList_app_none {α : Type} (E : Enc α) {P : Program} {t e : TypeId} {z : Value} {bytes : Nat} (T : ElemT P t e z E.size bytes) {ops : Array Oper} {rest : List Oper} {o : Oper} {a : Act} {Q : Exit → Act → World → Prop} {w : World}
    (hgd : o.guard = none) (s x : Operand) (ho : o.op = .call { callee := .builtin .append, args := #[s, x], argTypes := #[t, t] })
    (base : Nat) (v : Value) (hs : a.eval s = v) (hown : Own E w base e v []) (ad : Addr) (c : Nat) (hx : a.eval x = .slice (some ad) 0 c) (hbase : base ≤ w.heap.size)
    (h : ∀ v' w', Own E w' base e v' [] → Below base w w' → wpList P ops Q rest (a.put o.dst v') w') : wpList P ops Q (o :: rest) a w := by
  obtain ⟨i0, hi, hz0, hz1, hz2⟩ := info_parts T.info
  refine wpList_append_own _ hgd s x t ho base e i0 z E.size bytes T.under hi hz0 hz1 hz2 T.zs T.pos v 0 [] hs hown ad 0 c [] hx (by simp) (by intro j u hj; simp at hj) (by intro u hu; cases hu) (by unfold maxLen; omega) (by omega) hbase ?_
  intro v' w' hown' hg _
  exact h v' w' hown' ((Below.refl base w).grown hg hbase (fun k hk => (World.ownsRow.lt hown k hk).1))

set_option maxRecDepth 100000 in
theorem cloneCell_any {w : World} {a : Option Addr} {l : List Cell} (c : Nat) (hl : l.length ≤ 1000000) (hr : RowC w a l) :
    Calls Try.prog 78 #[.slice a l.length c] w fun e w' => ∃ v, e = .returned v ∧ Ext w w' ∧ Own cellE w' w.heap.size 28 v l := by
  have q := fun (w : World) (a : Option Addr) (n c n' c' : Nat) => Lib.run_eql_slice_nil (P := Try.prog) w _ _ a n c n' c' Try.underlying37
  cases a with
  | none =>
    have hl0 : l = [] := by
      cases l with
      | nil => rfl
      | cons x r => obtain ⟨b, off, h, _⟩ := hr (by simp); cases h
    subst hl0
    clear hr hl
    simp only [List.length_nil]
    go_enter Try.func78, Try.ntmps78
    go_wp2
    go_ret
    exact ⟨_, rfl, Ext.refl _, Own.nil _ _ _ _⟩
  | some ad =>
    by_cases h0 : 0 < l.length
    · obtain ⟨b, off, had, hb, hc⟩ := hr h0
      injection had with had
      subst had
      have RD := hide (hr.reads h0 c)
      obtain ⟨n, hnn⟩ : ∃ n, l.length = n := ⟨_, rfl⟩
      have HN := hide hnn
      rw [hnn] at hl h0 RD ⊢
      clear hr hc hnn
      go_enter Try.func78, Try.ntmps78
      go_wp2_with (at_builtin; refine wpList_app_more cellE T_cells rfl _ _ rfl w.heap.size _ [] l rfl (Own.lit0 cellE w _ _ _ rfl (Nat.le_refl _)) b off c (by rw [HN.out]; rfl) (Reads.cells (RD.out.ext ((Ext.refl _).alloc _))).2.2 (by rw [HN.out]; simp; omega) (by rw [HN.out]; simp; omega) (by simp) ?_; intro v9 w9 o9 b9; have O9 := hide o9; have X9 := hide (((Ext.refl w).alloc (.cells #[] 28)).of_below b9 (Nat.le_refl _)); clear o9 b9)
      rw [List.nil_append] at O9
      go_ret
      exact ⟨_, rfl, X9.out, O9.out⟩
    · have hl0 : l = [] := List.length_eq_zero_iff.1 (by omega)
      subst hl0
      clear hr hl h0
      simp only [List.length_nil]
      go_enter Try.func78, Try.ntmps78
      go_wp2_with (at_builtin; refine wpList_app_none cellE T_cells rfl _ _ rfl w.heap.size _ rfl (Own.lit0 cellE w _ _ _ rfl (Nat.le_refl _)) ad c rfl (by simp) ?_; intro v9 w9 o9 b9; have O9 := hide o9; have X9 := hide (((Ext.refl w).alloc (.cells #[] 28)).of_below b9 (Nat.le_refl _)); clear o9 b9)
      go_ret
      exact ⟨_, rfl, X9.out, O9.out⟩

set_option maxRecDepth 100000 in
theorem iFar1_any {w : World} {W H : Int} {l : List Int} {bx byy bw bh : Int} (L : LandP W H l bx byy bw bh) {a : Option Addr} {c ab pb g vc base : Nat} {D : Nat → Int} (q : Cell) (hq : hasB bx byy bw bh q.1 q.2 = true)
    (hA : w.cell? ⟨ab, 0, none⟩ = some (.slice (some ⟨g, 0, none⟩) l.length vc)) (hB : Blk w pb 134 #[.int .i64 W, .int .i64 H, .slice a l.length c, .int .i64 bx, .int .i64 byy, .int .i64 bw, .int .i64 bh]) (hF : FarAt w base g vc D l.length) :
    Calls Try.prog 126 (#[.agg #[.int .i64 q.1, .int .i64 q.2]] ++ #[.pointer (some ⟨ab, 0, none⟩), .pointer (some ⟨pb, 0, none⟩)]) w fun e w' => e = .returned (.int .u64 (D (idxN W q))) ∧ Ext w w' := by
  obtain ⟨x, y⟩ := q
  have hin := L.in_ hq
  have wh := L.wh
  have hn := L.idx_lt hin
  have hi := idx_int (W := W) hin.1 wh.1 hin.2.2.1
  have m1 := mul_bd (a := y) (b := W) (A := 256) (B := 256) (by omega) (by omega) (by omega) (by omega)
  have k1 : IntKind.i64.wrap (y * W) = y * W := IntWalk.i64_in _ (by omega)
  have k2 : IntKind.i64.wrap (y * W + x) = ((idxN W (x, y) : Nat) : Int) := by rw [hi]; exact IntWalk.i64_in _ (by omega)
  have hc := (hF.cell hn).1
  have zg := hF.lt.2
  have zb := hB.lt
  have b0 : w.cell? ⟨pb, 0, none⟩ = some (.int .i64 W) := hB.at 0 rfl
  have za := World.block_lt_of_cell? w _ hA
  simp only at za
  obtain ⟨j, hj⟩ : ∃ z, idxN W (x, y) = z := ⟨_, rfl⟩
  rw [hj] at hn k2 hc ⊢
  obtain ⟨n, hnn⟩ : ∃ z, l.length = z := ⟨_, rfl⟩
  rw [hnn] at hn hA
  have jn : (j : Int) < (n : Int) := by omega
  clear hq hB hF L hin hi m1 hj hnn wh
  simp only [Array.append_eq_append, List.append_toArray] at *
  go_enter Try.func126, Try.ntmps126
  go_wp2
  go_ret
  exact ⟨rfl, (by (with_reducible (repeat' (first | exact Ext.refl _ | assumption | refine Ext.drew ?_ | refine Ext.drewN ?_ _ | refine Ext.alloc ?_ _ | refine Ext.setCell ?_ ?_ _ | refine Ext.trans ?_ (by assumption)))); all_goals (first | (simp; done) | (simp; omega)))⟩
end Go.Proofs.Ytifbmapianddcaa

/- Walk of far. -/
namespace Go.Proofs.Ytifbmapianddcaa
open Go.RowKit

set_option maxRecDepth 100000 in
theorem iFar_bad {w : World} (W H : Int) (a : Option Addr) (n c : Nat) (bx byy bw bh x y : Int) (ca : Option Addr) (cn cc : Nat) (he : lookE W H n bx byy bw bh x y ≠ 0) :
    Calls Try.prog 77 #[.agg #[.int .i64 W, .int .i64 H, .slice a n c, .int .i64 bx, .int .i64 byy, .int .i64 bw, .int .i64 bh], .agg #[.int .i64 x, .int .i64 y], .slice ca cn cc] w fun e w' => e = .returned (.tuple #[.slice none 0 0, .int .i64 (lookE W H n bx byy bw bh x y)]) ∧ Ext w w' := by
  have H1 := hide (fun (w' : World) => fWithin_bad (w := w') W H a n c bx byy bw bh x y he)
  generalize lookE W H n bx byy bw bh x y = er at *
  have hb : (er != 0) = true := by simpa using he
  clear he
  go_enter Try.func77, Try.ntmps77
  go_wp2_with fail
  refine (H1.out _).mono ?_
  rintro e w1 ⟨rfl, hb1⟩
  go_wp2_with fail
  go_ret2
  exact ⟨rfl, (by (with_reducible (repeat' (first | exact Ext.refl _ | assumption | refine Ext.drew ?_ | refine Ext.drewN ?_ _ | refine Ext.alloc ?_ _ | refine Ext.setCell ?_ ?_ _ | refine Ext.trans ?_ (by assumption)))); all_goals (first | (simp; done) | (simp; omega)))⟩

set_option maxRecDepth 100000 in
theorem iFar_ok {w : World} {W H : Int} {a : Option Addr} {l : List Int} {bx byy bw bh : Int} (L : LandP W H l bx byy bw bh) (c : Nat) (p : Cell) (hp : hasB bx byy bw bh p.1 p.2 = true) {ca : Option Addr} {cs : List Cell} (cc : Nat) (hcs : ∀ q, q ∈ cs → hasB bx byy bw bh q.1 q.2 = true) (hl : cs.length ≤ 1000000) (hr : Row16 w a l) (hc : RowC w ca cs) :
    Calls Try.prog 77 #[.agg #[.int .i64 W, .int .i64 H, .slice a l.length c, .int .i64 bx, .int .i64 byy, .int .i64 bw, .int .i64 bh], .agg #[.int .i64 p.1, .int .i64 p.2], .slice ca cs.length cc] w fun e w' => ∃ s : Option Addr × Nat × Nat, e = .returned (.tuple #[.slice s.1 s.2.1 s.2.2, .int .i64 0]) ∧ Ext w w' ∧ Own u64E w' w.heap.size 38 (.slice s.1 s.2.1 s.2.2) (rowD L cs p) := by
  obtain ⟨x, y⟩ := p
  have he : lookE W H l.length bx byy bw bh x y = 0 := lookE_ok.2 ⟨L.may, L.len, L.fits, hp⟩
  obtain ⟨G, hG⟩ : ∃ G, mapNet L = G := ⟨_, rfl⟩
  have H1 : Hid (∀ w', Ext w w' → Calls Try.prog 64 #[.agg #[.int .i64 W, .int .i64 H, .slice a l.length c], .agg #[.int .i64 bx, .int .i64 byy, .int .i64 bw, .int .i64 bh], .agg #[.int .i64 x, .int .i64 y]] w' fun e w'' =>
      ∃ v far, e = .returned (.tuple #[v, .int .i64 0]) ∧ Ext w' w'' ∧ Own u64E w'' w'.heap.size 38 v (farL far l.length) ∧ IsFar G (idxN W (x, y)) far ∧ FarLow G far) := hide (fun w' hx => by have h := fWithin_ok (w := w') c he (hr.ext hx) L.u16; rw [← hG]; exact h)
  have LL := hide L
  have HC := hide hc
  have HCS := hide hcs
  have hn1 : 1 ≤ l.length := by have := L.idx_lt (L.in_ hp); omega
  have HDI : Hid (∀ (D : Nat → Int) (_ : IsFar G (idxN W (x, y)) D) (v : Nat), D v = farD L (x, y) v) := hide (by rw [← hG]; exact fun D F v => farD_one L F v)
  clear hG
  obtain ⟨n, hnn⟩ : ∃ z, l.length = z := ⟨_, rfl⟩
  have HN := hide hnn
  rw [hnn] at H1 hn1 ⊢
  obtain ⟨m, hmm⟩ : ∃ z, cs.length = z := ⟨_, rfl⟩
  have HM := hide hmm
  rw [hmm] at hl ⊢
  clear hr hc hcs hp hnn hmm
  clear he
  simp only
  go_enter Try.func77, Try.ntmps77
  go_wp2_with fail
  refine (H1.out _ (by (with_reducible (repeat' (first | exact Ext.refl _ | assumption | refine Ext.drew ?_ | refine Ext.drewN ?_ _ | refine Ext.alloc ?_ _ | refine Ext.setCell ?_ ?_ _ | refine Ext.trans ?_ (by assumption)))); all_goals (first | (simp; done) | (simp; omega)))).mono ?_
  rintro e w1 ⟨v, far, rfl, hb1, hv, F, _⟩
  have BP1 : Hid (Blk w1 (w.heap.size) 134 #[.int .i64 W, .int .i64 H, .slice a n c, .int .i64 bx, .int .i64 byy, .int .i64 bw, .int .i64 bh]) := hide (by refine Blk.ext ?_ hb1; (repeat' (first | exact Blk.new_ (by simp) | refine Blk.drew ?_ | refine Blk.over ?_)))
  have hx1 : Ext w w1 := (by (with_reducible (repeat' (first | exact Ext.refl _ | assumption | refine Ext.drew ?_ | refine Ext.drewN ?_ _ | refine Ext.alloc ?_ _ | refine Ext.setCell ?_ ?_ _ | refine Ext.trans ?_ (by assumption)))); all_goals (first | (simp; done) | (simp; omega)))
  have HX1 := hide hx1
  have FD := hide (HDI.out far F)
  obtain ⟨g, vc, hvg⟩ := own_u64 hv (by rw [farL_len]; omega)
  rw [farL_len] at hvg
  subst hvg
  have FA := hide (show FarAt w1 _ g vc far n from hv)
  clear hv F hb1 hx1
  go_wp2_with fail
  obtain ⟨w2, hw2⟩ : ∃ w2, w2 = w1.alloc (.cells #[.slice (some ⟨g, 0, none⟩) n vc] 33) := ⟨_, rfl⟩
  have hx2 : Ext w1 w2 := by rw [hw2]; exact (Ext.refl _).alloc _
  have AB := hide (show Blk w2 w1.heap.size 33 #[.slice (some ⟨g, 0, none⟩) n vc] by rw [hw2]; exact Blk.new_ rfl)
  have BP2 := hide (Blk.ext BP1.out hx2)
  have FA2 := hide (FA.out.ext hx2)
  have HX2 := hide (HX1.out.trans hx2)
  have HC2 := hide (HC.out.ext HX2.out)
  rw [← hw2]
  clear hw2 hx2 BP1 FA HX1 HC H1
  have HE := eachU64_any (w := w2) (f := 126) (caps := #[.pointer (some ⟨w1.heap.size, 0, none⟩), .pointer (some ⟨w.heap.size, 0, none⟩)]) (g := fun q => farD LL.out (x, y) (idxN W q)) cc (by rw [HM.out]; exact hl) HC2.out
    (fun w' hx q hq => by
      have h := iFar1_any (w := w') LL.out (a := a) (c := c) (ab := w1.heap.size) (pb := w.heap.size) (g := g) (vc := vc) (D := far) q (HCS.out q hq) (by rw [HN.out]; exact (Blk.ext AB.out hx).at 0 rfl) (by rw [HN.out]; exact Blk.ext BP2.out hx) (by rw [HN.out]; exact FA2.out.ext hx)
      rw [FD.out] at h
      exact h)
    (enters_of Try.func126 (by kernel_rfl) rfl)
  rw [HM.out] at HE
  refine HE.mono ?_
  rintro e w3 ⟨v3, rfl, hx3, ho3⟩
  obtain ⟨sa, sc, hs3⟩ := ho3.slice
  rw [List.length_map] at hs3
  subst hs3
  have O3 := hide ho3
  have X3 := hide hx3
  have z2 := HX2.out.size
  clear ho3 hx3 HE
  go_wp2_with fail
  go_ret2
  exact ⟨(sa, _, sc), rfl, HX2.out.trans X3.out, O3.out.lower (by omega)⟩
end Go.Proofs.Ytifbmapianddcaa

/- The walk of part's Box. -/
namespace Go.Proofs.Ytifbmapianddcaa
open Go.RowKit

theorem Box_no (W H s id : Int) (w : World) (hr : (hasE W H s [id] != 0) = true) :
    Calls Try.prog 102 #[.agg #[.int .i64 W, .int .i64 H, .int .i64 s], .int .i64 id] w fun e w' => e = .returned (.tuple #[.agg #[.int .i64 0, .int .i64 0, .int .i64 0, .int .i64 0], .int .i64 (hasE W H s [id])]) ∧ Ext w w' := by
  go_enter Try.func102, Try.ntmps102
  go_wp2_with (first
    | (go_at_call 141; refine (has_any W H s _ 0 _ [id] _ (by simp) (by simp) (by exact one_at _ _ _ _ (by simp))).mono ?_; rintro e w1 ⟨rfl, hb1⟩; obtain ⟨hc1, hf1⟩ := hb1.cells; have hz1 := hb1.size; (repeat (first | rw [World.size_alloc] at hz1 | rw [World.size_drew] at hz1)); have z1_0 : w.heap.size < w1.heap.size := (by omega); have z1_1 : w.heap.size + 1 < w1.heap.size := (by omega)))
  exact bodyPost_ret (v := .tuple #[.agg #[.int .i64 0, .int .i64 0, .int .i64 0, .int .i64 0], .int .i64 (hasE W H s [id])]) (by simp [results, Try.results102, go_sem, *]) rfl ⟨rfl, (by (with_reducible (repeat' (first | exact Ext.refl _ | assumption | refine Ext.drew ?_ | refine Ext.drewN ?_ _ | refine Ext.alloc ?_ _ | refine Ext.setCell ?_ ?_ _ | refine Ext.trans ?_ (by assumption)))); all_goals (first | (simp; done) | (simp; omega)))⟩

theorem Box_yes (W H s id : Int) (w : World) (hr : rightB W H s = true) (h0 : 0 ≤ id) (hid : id < cnt W H s) :
    Calls Try.prog 102 #[.agg #[.int .i64 W, .int .i64 H, .int .i64 s], .int .i64 id] w fun e w' =>
      e = .returned (.tuple #[.agg #[.int .i64 (boxX W s id), .int .i64 (boxY W s id), .int .i64 (min s (W - boxX W s id)), .int .i64 (min s (H - boxY W s id))], .int .i64 0]) ∧ Ext w w' := by
  have hbad := bad_false h0 hid
  have hany : [id].any (bad W H s) = false := by simp [hbad]
  generalize hB : min s (W - boxX W s id) = B at *
  generalize hC : min s (H - boxY W s id) = C at *
  have HB := hide hB
  have HC := hide hC
  clear hB hC
  go_enter Try.func102, Try.ntmps102
  go_wp2_with (first
    | (go_at_call 141; refine (has_ok W H s _ 0 _ [id] _ hr hany (by simp) (by simp) (by exact one_at _ _ _ _ (by simp))).mono ?_; rintro e w1 ⟨rfl, hb1⟩; obtain ⟨hc1, hf1⟩ := hb1.cells; have hz1 := hb1.size; (repeat (first | rw [World.size_alloc] at hz1 | rw [World.size_drew] at hz1)); have z1_0 : w.heap.size < w1.heap.size := (by omega); have z1_1 : w.heap.size + 1 < w1.heap.size := (by omega))
    | (go_at_call 145; refine (box_yes W H s id _ hr h0 hid).mono ?_; rintro e w2 ⟨rfl, hb2⟩; obtain ⟨hc2, hf2⟩ := hb2.cells; have hz2 := hb2.size; (repeat (first | rw [World.size_alloc] at hz2 | rw [World.size_drew] at hz2)); have z2_0 : w.heap.size < w2.heap.size := (by omega); have z2_1 : w.heap.size + 1 < w2.heap.size := (by omega)))
  rw [HB.out, HC.out]
  exact bodyPost_ret (v := .tuple #[.agg #[.int .i64 (boxX W s id), .int .i64 (boxY W s id), .int .i64 B, .int .i64 C], .int .i64 0]) (by simp [results, Try.results102, go_sem, *]) rfl ⟨rfl, (by (with_reducible (repeat' (first | exact Ext.refl _ | assumption | refine Ext.drew ?_ | refine Ext.drewN ?_ _ | refine Ext.alloc ?_ _ | refine Ext.setCell ?_ ?_ _ | refine Ext.trans ?_ (by assumption)))); all_goals (first | (simp; done) | (simp; omega)))⟩
end Go.Proofs.Ytifbmapianddcaa

/- A region that draws its order, walked along one order: what may be taken first is taken first, what acts is carried out alone. -/
namespace Go.Proofs.Ytifbmapianddcaa
open Go.RowKit

/-- The order is one that a walk may take: (i, true) is free, (i, false) comes up alone. -/
def okOrder (md : Region.Mode) (ops : Array Oper) : List (Nat × Bool) → Array Bool → Bool
  | [], listed => (Region.ready md ops listed).isEmpty
  | (i, true) :: r, listed => (Region.ready md ops listed).contains i && Region.free md ops listed i && okOrder md ops r (listed.setIfInBounds i true)
  | (i, false) :: r, listed => Region.ready md ops listed == [i] && okOrder md ops r (listed.setIfInBounds i true)

/-- The rest of a region in a given order. -/
def SeqH (P : Program) (ops : Array Oper) (Q : Exit → Act → World → Prop) (S : World → Prop) : List (Nat × Bool) → Act → World → Prop
  | [], a, w => Q .normal a w
  | (i, true) :: r, a, w => ∃ oi v, ops[i]? = some oi ∧ YieldsIf P ops S oi v a ∧ SeqH P ops Q S r (a.put oi.dst v) w
  | (i, false) :: r, a, w => ∃ oi, ops[i]? = some oi ∧ ∀ K' : Act → World → Prop, Shut (∀ a w, S w → (S w → SeqH P ops Q S r a w) → K' a w) → if Region.wanted oi (yielded ops a.tmps) = true then Oper.wp P oi a w K' Q else K' (a.put oi.dst undef) w

section
variable {P : Program} {ops : Array Oper} {Q : Exit → Act → World → Prop} {S : World → Prop}

theorem SeqH.free {i : Nat} {r : List (Nat × Bool)} {oi : Oper} {v : Value} {a : Act} {w : World} (hi : ops[i]? = some oi) (hy : YieldsIf P ops S oi v a) (h : SeqH P ops Q S r (a.put oi.dst v) w) : SeqH P ops Q S ((i, true) :: r) a w := ⟨oi, v, hi, hy, h⟩
theorem SeqH.step {i : Nat} {r : List (Nat × Bool)} {oi : Oper} {a : Act} {w : World} (hi : ops[i]? = some oi) (h : ∀ K' : Act → World → Prop, Shut (∀ a w, S w → (S w → SeqH P ops Q S r a w) → K' a w) → if Region.wanted oi (yielded ops a.tmps) = true then Oper.wp P oi a w K' Q else K' (a.put oi.dst undef) w) : SeqH P ops Q S ((i, false) :: r) a w := ⟨oi, hi, h⟩
theorem SeqH.done {a : Act} {w : World} (h : Q .normal a w) : SeqH P ops Q S [] a w := h

theorem SeqH.any {md : Region.Mode} (hs : Region.noSelect ops = true) (hQ : ∀ c a d v w, Q (.panic c) (a.put d v) w → Q (.panic c) a w) : ∀ (r : List (Nat × Bool)) (fuel : Nat) (listed : Array Bool) (a : Act) (w : World), okOrder md ops r listed = true → r.length ≤ fuel → S w → SeqH P ops Q S r a w → wpAnyH P md ops Q S fuel listed a w
  | [], fuel, listed, a, w, hk, _, _, h => wpAnyH_done (by unfold okOrder at hk; exact List.isEmpty_iff.1 hk) h fuel
  | (i, true) :: r, 0, _, _, _, _, hf, _, _ => absurd hf (by simp)
  | (i, false) :: r, 0, _, _, _, _, hf, _, _ => absurd hf (by simp)
  | (i, true) :: r, fuel + 1, listed, a, w, hk, hf, hS, h => by
    unfold okOrder at hk
    simp only [Bool.and_eq_true] at hk
    obtain ⟨oi, v, hi, hy, h⟩ := h
    exact wpAnyH_take hi hs hk.1.2 hk.1.1 (fun c a w => hQ c a _ _ w) hy hS (SeqH.any hs hQ r fuel _ _ w hk.2 (by simpa using hf) hS h)
  | (i, false) :: r, fuel + 1, listed, a, w, hk, hf, hS, h => by
    unfold okOrder at hk
    simp only [Bool.and_eq_true, beq_iff_eq] at hk
    obtain ⟨oi, hi, h⟩ := h
    refine wpAnyH_ready hk.1 (by simp) (AllReadyH.cons hi (fun K hK => ?_) AllReadyH.nil)
    exact h K (fun a' w' hS' hseq => hK.out a' w' hS' (fun _ => SeqH.any hs hQ r fuel _ a' w' hk.2 (by simpa using hf) hS' (hseq hS')))

/-- The beginning. -/
theorem seqH_start {id : Nat} {a : Act} {w : World} (r : List (Nat × Bool)) (hm : P.follows .mixedOrders = true) (hs : Region.noSelect ops = true) (hk : okOrder .any ops r (Array.replicate ops.size false) = true) (hl : (r.length ≤ ops.size : Prop))
    (hQ : ∀ c a d v w, Q (.panic c) (a.put d v) w → Q (.panic c) a w) (hS : S w.drew) (h : S w.drew → SeqH P ops Q S r a w.drew) : (Code.region id ops true).wp P Q a w :=
  wp_region_held_drew hm hS (fun hS' => SeqH.any hs hQ r _ _ _ _ hk hl hS' (h hS'))
end
end Go.Proofs.Ytifbmapianddcaa

/- Walk of look. -/
namespace Go.Proofs.Ytifbmapianddcaa
open Go.RowKit

set_option maxRecDepth 100000 in
theorem iLook_field {w : World} (W H : Int) (a : Option Addr) (n c : Nat) (PW PH s id : Int) (ca : Option Addr) (cn cc : Nat) (he : checkE W H n ≠ 0) :
    Calls Try.prog 74 #[.agg #[.int .i64 W, .int .i64 H, .slice a n c], .agg #[.int .i64 PW, .int .i64 PH, .int .i64 s], .int .i64 id, .slice ca cn cc] w fun e w' => e = .returned (.tuple #[.agg #[.int .i64 0, .int .i64 0, .slice none 0 0, .int .i64 0, .int .i64 0, .int .i64 0, .int .i64 0], .int .i64 (checkE W H n)]) ∧ Ext w w' := by
  have H1 := hide (fun w' => gCheck_any W H a n c w')
  generalize checkE W H n = er at *
  have hb : (er != 0) = true := by simpa using he
  clear he
  go_enter Try.func74, Try.ntmps74
  go_wp2_with fail
  apply wp_scope_straight
  go_wp2_with fail
  refine (H1.out _).mono ?_
  rintro e w1 ⟨rfl, hb1⟩
  obtain ⟨hc1, hf1⟩ := hb1.cells; have hz1 := hb1.size; (repeat (first | rw [World.size_alloc] at hz1 | rw [World.size_drew] at hz1)); have z1_0 : w.heap.size < w1.heap.size := (by omega); have z1_1 : w.heap.size + 1 < w1.heap.size := (by omega); have z1_2 : w.heap.size + 2 < w1.heap.size := (by omega)
  go_wp2_with fail
  rw [Exit.noGoto_ret]
  exact bodyPost_ret (v := .tuple #[.agg #[.int .i64 0, .int .i64 0, .slice none 0 0, .int .i64 0, .int .i64 0, .int .i64 0, .int .i64 0], .int .i64 er]) (by simp [results, Try.results74, go_sem, *]) rfl ⟨rfl, (by (with_reducible (repeat' (first | exact Ext.refl _ | assumption | refine Ext.drew ?_ | refine Ext.drewN ?_ _ | refine Ext.alloc ?_ _ | refine Ext.setCell ?_ ?_ _ | refine Ext.trans ?_ (by assumption)))); all_goals (first | (simp; done) | (simp; omega)))⟩

set_option maxRecDepth 100000 in
theorem iLook_size {w : World} (W H : Int) (a : Option Addr) (n c : Nat) (PW PH s id : Int) (ca : Option Addr) (cn cc : Nat) (he : checkE W H n = 0) (hs : ¬ (PW = W ∧ PH = H)) :
    Calls Try.prog 74 #[.agg #[.int .i64 W, .int .i64 H, .slice a n c], .agg #[.int .i64 PW, .int .i64 PH, .int .i64 s], .int .i64 id, .slice ca cn cc] w fun e w' => e = .returned (.tuple #[.agg #[.int .i64 0, .int .i64 0, .slice none 0 0, .int .i64 0, .int .i64 0, .int .i64 0, .int .i64 0], .int .i64 1]) ∧ Ext w w' := by
  have H1 := hide (fun w' => gCheck_any W H a n c w')
  rw [he] at H1
  have hq := fun w => eq_size PW PH W H w
  rw [show (PW == W && PH == H) = false by rw [Bool.eq_false_iff]; intro h; simp only [Bool.and_eq_true, beq_iff_eq] at h; exact hs h] at hq
  clear he hs
  go_enter Try.func74, Try.ntmps74
  go_wp2_with fail
  apply wp_scope_straight
  go_wp2_with fail
  refine (H1.out _).mono ?_
  rintro e w1 ⟨rfl, hb1⟩
  obtain ⟨hc1, hf1⟩ := hb1.cells; have hz1 := hb1.size; (repeat (first | rw [World.size_alloc] at hz1 | rw [World.size_drew] at hz1)); have z1_0 : w.heap.size < w1.heap.size := (by omega); have z1_1 : w.heap.size + 1 < w1.heap.size := (by omega); have z1_2 : w.heap.size + 2 < w1.heap.size := (by omega)
  go_wp2_with fail
  rw [Exit.noGoto_ret]
  exact bodyPost_ret (v := .tuple #[.agg #[.int .i64 0, .int .i64 0, .slice none 0 0, .int .i64 0, .int .i64 0, .int .i64 0, .int .i64 0], .int .i64 1]) (by simp [results, Try.results74, go_sem, *]) rfl ⟨rfl, (by (with_reducible (repeat' (first | exact Ext.refl _ | assumption | refine Ext.drew ?_ | refine Ext.drewN ?_ _ | refine Ext.alloc ?_ _ | refine Ext.setCell ?_ ?_ _ | refine Ext.trans ?_ (by assumption)))); all_goals (first | (simp; done) | (simp; omega)))⟩

set_option maxRecDepth 100000 in
theorem iLook_box {w : World} (W H : Int) (a : Option Addr) (n c : Nat) (s id : Int) (ca : Option Addr) (cn cc : Nat) (he : checkE W H n = 0) (hs : hasE W H s [id] ≠ 0) :
    Calls Try.prog 74 #[.agg #[.int .i64 W, .int .i64 H, .slice a n c], .agg #[.int .i64 W, .int .i64 H, .int .i64 s], .int .i64 id, .slice ca cn cc] w fun e w' => e = .returned (.tuple #[.agg #[.int .i64 0, .int .i64 0, .slice none 0 0, .int .i64 0, .int .i64 0, .int .i64 0, .int .i64 0], .int .i64 (hasE W H s [id])]) ∧ Ext w w' := by
  have H1 := hide (fun w' => gCheck_any W H a n c w')
  rw [he] at H1
  have hq := fun w => eq_size W H W H w
  rw [show (W == W && H == H) = true by simp] at hq
  have H2 := hide (fun (w' : World) => Box_no W H s id w' (by simpa using hs))
  generalize hasE W H s [id] = er at *
  have hb : (er != 0) = true := by simpa using hs
  clear he hs
  go_enter Try.func74, Try.ntmps74
  go_wp2_with fail
  apply wp_scope_straight
  go_wp2_with fail
  refine (H1.out _).mono ?_
  rintro e w1 ⟨rfl, hb1⟩
  obtain ⟨hc1, hf1⟩ := hb1.cells; have hz1 := hb1.size; (repeat (first | rw [World.size_alloc] at hz1 | rw [World.size_drew] at hz1)); have z1_0 : w.heap.size < w1.heap.size := (by omega); have z1_1 : w.heap.size + 1 < w1.heap.size := (by omega); have z1_2 : w.heap.size + 2 < w1.heap.size := (by omega)
  go_wp2_with fail
  refine (H2.out _).mono ?_
  rintro e w2 ⟨rfl, hb2⟩
  obtain ⟨hc2, hf2⟩ := hb2.cells; have hz2 := hb2.size; (repeat (first | rw [World.size_alloc] at hz2 | rw [World.size_drew] at hz2)); have z2_0 : w.heap.size < w2.heap.size := (by omega); have z2_1 : w.heap.size + 1 < w2.heap.size := (by omega); have z2_2 : w.heap.size + 2 < w2.heap.size := (by omega)
  go_wp2_with fail
  rw [Exit.noGoto_ret]
  exact bodyPost_ret (v := .tuple #[.agg #[.int .i64 0, .int .i64 0, .slice none 0 0, .int .i64 0, .int .i64 0, .int .i64 0, .int .i64 0], .int .i64 er]) (by simp [results, Try.results74, go_sem, *]) rfl ⟨rfl, (by (with_reducible (repeat' (first | exact Ext.refl _ | assumption | refine Ext.drew ?_ | refine Ext.drewN ?_ _ | refine Ext.alloc ?_ _ | refine Ext.setCell ?_ ?_ _ | refine Ext.trans ?_ (by assumption)))); all_goals (first | (simp; done) | (simp; omega)))⟩

set_option maxRecDepth 100000 in
set_option maxHeartbeats 1000000 in
theorem iLook_cells {w : World} (W H : Int) (a : Option Addr) (n c : Nat) (s id : Int) (ca : Option Addr) (cs : List Cell) (cc : Nat) (he : checkE W H n = 0) (hr : rightB W H s = true) (h0 : 0 ≤ id) (hid : id < cnt W H s) (hc : RowC w ca cs) (hl : cs.length ≤ 1000000) (hi : ∀ p ∈ cs, InI p.1 ∧ InI p.2) :
    Calls Try.prog 74 #[.agg #[.int .i64 W, .int .i64 H, .slice a n c], .agg #[.int .i64 W, .int .i64 H, .int .i64 s], .int .i64 id, .slice ca cs.length cc] w fun e w' => e = .returned (.tuple #[.agg #[.int .i64 W, .int .i64 H, .slice a n c, .int .i64 (boxX W s id), .int .i64 (boxY W s id), .int .i64 (boxW W s id), .int .i64 (boxH W H s id)], .int .i64 (cellsE W H s id cs cs.length)]) ∧ Ext w w' := by
  have H1 := hide (fun w' => gCheck_any W H a n c w')
  rw [he] at H1
  have hq := fun w => eq_size W H W H w
  rw [show (W == W && H == H) = true by simp] at hq
  have H2 := hide (fun (w' : World) => Box_yes W H s id w' hr h0 hid)
  have HC := hide hc
  have HIN := hide hi
  have HR := hide hr
  have eW : boxW W s id = min s (W - boxX W s id) := rfl
  have eH : boxH W H s id = min s (H - boxY W s id) := rfl
  rw [← eW, ← eH] at H2
  obtain ⟨m, hm⟩ : ∃ z, cs.length = z := ⟨_, rfl⟩
  have HM := hide hm
  rw [hm] at hl ⊢
  clear he hr h0 hid hc hi hm eW eH
  generalize boxX W s id = X at *
  generalize boxY W s id = Y at *
  generalize boxW W s id = BW at *
  generalize boxH W H s id = BH at *
  go_enter Try.func74, Try.ntmps74
  go_wp2_with fail
  apply wp_scope_straight
  go_wp2_with fail
  refine (H1.out _).mono ?_
  rintro e w1 ⟨rfl, hb1⟩
  have BF1 : Hid (Blk w1 (w.heap.size) 26 #[.int .i64 W, .int .i64 H, .slice a n c]) := hide (by refine Blk.ext ?_ hb1; (repeat' (first | exact Blk.new_ (by simp) | refine Blk.drew ?_ | refine Blk.over ?_)))
  have BP1 : Hid (Blk w1 (w.heap.size + 1) 51 #[.int .i64 W, .int .i64 H, .int .i64 s]) := hide (by refine Blk.ext ?_ hb1; (repeat' (first | exact Blk.new_ (by simp) | refine Blk.drew ?_ | refine Blk.over ?_)))
  have BR1 : Hid (Blk w1 (w.heap.size + 2) 134 #[.int .i64 0, .int .i64 0, .slice none 0 0, .int .i64 0, .int .i64 0, .int .i64 0, .int .i64 0]) := hide (by refine Blk.ext ?_ hb1; (repeat' (first | exact Blk.new_ (by simp) | refine Blk.drew ?_ | refine Blk.over ?_)))
  have HX1 := hide (show Ext w w1 from (by (with_reducible (repeat' (first | exact Ext.refl _ | assumption | refine Ext.drew ?_ | refine Ext.drewN ?_ _ | refine Ext.alloc ?_ _ | refine Ext.setCell ?_ ?_ _ | refine Ext.trans ?_ (by assumption)))); all_goals (first | (simp; done) | (simp; omega))))
  clear hb1
  have f0 := BF1.out.at 0 rfl; have f1 := BF1.out.at 1 rfl; have f2 := BF1.out.at 2 rfl; have fz := BF1.out.lt
  have p0 := BP1.out.at 0 rfl; have p1 := BP1.out.at 1 rfl; have p2 := BP1.out.at 2 rfl; have pz := BP1.out.lt
  go_wp2_with fail
  refine (H2.out _).mono ?_
  rintro e w2 ⟨rfl, hb2⟩
  have BF2 := hide (Blk.ext BF1.out hb2)
  have BP2 := hide (Blk.ext BP1.out hb2)
  have BR2 := hide (Blk.ext BR1.out hb2)
  have HX2 := hide (HX1.out.trans hb2)
  have hz2 : w.heap.size + 3 ≤ w2.heap.size := by have := BR2.out.lt; omega
  clear hb2 f0 f1 f2 fz p0 p1 p2 pz BF1 BP1 BR1 HX1
  go_wp2_with fail
  obtain ⟨w3, hw3⟩ : ∃ w3, w3 = w2.alloc (.cells #[.int .i64 X, .int .i64 Y, .int .i64 BW, .int .i64 BH] 64) := ⟨_, rfl⟩
  have hx3 : Ext w2 w3 := by rw [hw3]; exact (Ext.refl _).alloc _
  have BB3 := hide (show Blk w3 w2.heap.size 64 #[.int .i64 X, .int .i64 Y, .int .i64 BW, .int .i64 BH] by rw [hw3]; exact Blk.new_ rfl)
  have BF3 := hide (Blk.ext BF2.out hx3)
  have BP3 := hide (Blk.ext BP2.out hx3)
  have BR3 := hide (Blk.ext BR2.out hx3)
  have HX3 := hide (HX2.out.trans hx3)
  have hz3 : w2.heap.size + 1 ≤ w3.heap.size := by have := BB3.out.lt; omega
  rw [← hw3]
  obtain ⟨xb, hxb⟩ : ∃ z, w2.heap.size = z := ⟨_, rfl⟩
  rw [hxb] at BB3 hz3 hz2 ⊢
  clear hw3 hx3 hxb BF2 BP2 BR2 HX2
  go_step3
  go_wp2_with fail
  go_loopw [12, 41] (fun ev iv wr => ∃ k : Nat, k ≤ m ∧ iv = .int .i64 k ∧ ev = .int .i64 0 ∧ cellsE W H s id cs k = 0 ∧ Ext w3 wr) (fun _ iv _ => m - (intOf iv).toNat)
  case atStart => exact ⟨0, Nat.zero_le _, rfl, rfl, rfl, Ext.refl _⟩
  case round =>
    obtain ⟨k, hk, rfl, rfl, hce, hx⟩ := hrel
    have HCE := hide hce
    have XR := hide hx
    have BFr := hide (Blk.ext BF3.out hx)
    have BPr := hide (Blk.ext BP3.out hx)
    have BRr := hide (Blk.ext BR3.out hx)
    have BBr := hide (Blk.ext BB3.out hx)
    have hzr := hx.size
    clear hce hx
    by_cases hlt : k < m
    · have hkl : k < cs.length := by rw [HM.out]; exact hlt
      obtain ⟨b, off, rfl, hb, hcc⟩ := HC.out (by omega)
      have hxw := HX3.out.trans XR.out
      have hq0 := hcc k hkl
      have hgd : cs.getD k (0, 0) = cs[k] := by simp [List.getD_eq_getElem?_getD, hkl]
      have hini := HIN.out cs[k] (List.getElem_mem hkl)
      obtain ⟨⟨qx, qy⟩, hqe⟩ : ∃ q, cs[k] = q := ⟨_, rfl⟩
      rw [hqe] at hq0 hgd hini
      have HGD := hide hgd
      have d0 := (hxw.cell (p := ⟨b, off + k * 2, none⟩) hb).trans hq0.1
      have d1 := (hxw.cell (p := ⟨b, off + k * 2 + 1, none⟩) hb).trans hq0.2
      have zb : b < wr.heap.size := Nat.lt_of_lt_of_le hb hxw.size
      have HCC := hide (fun k' (h : k' < cs.length) => hcc k' h)
      have HB := hide hb
      have HXW := hide hxw
      have jk : (k : Int) < (m : Int) := by omega
      clear hkl hcc hq0 hgd hqe hxw hb
      have p0 := BPr.out.at 0 rfl; have p1 := BPr.out.at 1 rfl; have p2 := BPr.out.at 2 rfl; have pz := BPr.out.lt
      have END : Hid (∀ e : Int, cellBad W H s id cs k = e → e ≠ 0 → cellsE W H s id cs m = e) := hide (fun e h1 h2 => by rw [cellsE_at HCE.out (by rw [h1]; exact h2) hlt, h1])
      cases hin : inB W H qx qy
      · have HE := hide (END.out 10 (by unfold cellBad; rw [HGD.out]; unfold inId; rw [hin]; rfl) (by decide))
        have HOF := hide (fun w' => of_range W H s qx qy w' HR.out hin)
        clear hin END
        go_wp2_with fail
        refine (HOF.out _).mono ?_
        rintro e w5 ⟨rfl, hb5⟩
        have hx5 : Ext wr w5 := (by (with_reducible (repeat' (first | exact Ext.refl _ | assumption | refine Ext.drew ?_ | refine Ext.drewN ?_ _ | refine Ext.alloc ?_ _ | refine Ext.setCell ?_ ?_ _ | refine Ext.trans ?_ (by assumption)))); all_goals (first | (simp; done) | (simp; omega)))
        have BF5 := hide (Blk.ext BFr.out hx5)
        have BR5 := hide (Blk.ext BRr.out hx5)
        have BB5 := hide (Blk.ext BBr.out hx5)
        have hxx := HXW.out.trans hx5
        clear hb5 hx5 p0 p1 p2 pz d0 d1
        have f0 := BF5.out.at 0 rfl; have f1 := BF5.out.at 1 rfl; have f2 := BF5.out.at 2 rfl; have fz := BF5.out.lt
        have g0 := BB5.out.at 0 rfl; have g1 := BB5.out.at 1 rfl; have g2 := BB5.out.at 2 rfl; have g3 := BB5.out.at 3 rfl; have gz := BB5.out.lt
        have r0 := BR5.out.at 0 rfl; have r1 := BR5.out.at 1 rfl; have r2 := BR5.out.at 2 rfl; have r3 := BR5.out.at 3 rfl; have r4 := BR5.out.at 4 rfl; have r5 := BR5.out.at 5 rfl; have r6 := BR5.out.at 6 rfl; have rz := BR5.out.lt
        have t0 := BR5.out.frozen 0
        have t1 := BR5.out.frozen 1
        have t2 := BR5.out.frozen 2
        have t3 := BR5.out.frozen 3
        have t4 := BR5.out.frozen 4
        have t5 := BR5.out.frozen 5
        have t6 := BR5.out.frozen 6
        go_wp2_with fail
        rw [Exit.noGoto_ret]
        exact bodyPost_ret (v := .tuple #[.agg #[.int .i64 W, .int .i64 H, .slice a n c, .int .i64 X, .int .i64 Y, .int .i64 BW, .int .i64 BH], .int .i64 10]) (by simp [results, Try.results74, go_sem, *]) rfl ⟨by rw [HE.out], (by (with_reducible (repeat' (first | exact Ext.refl _ | assumption | refine Ext.drew ?_ | refine Ext.drewN ?_ _ | refine Ext.alloc ?_ _ | refine Ext.setCell ?_ ?_ _ | refine Ext.trans ?_ (by assumption)))); all_goals (first | (simp; done) | (simp; omega)))⟩
      · have HOF := hide (fun w' => of_yes W H s qx qy w' HR.out hin)
        have hid1 : inId W H s id (qx, qy) = decide (ofN W s qx qy = id) := by unfold inId; rw [hin]; rfl
        obtain ⟨om, hom⟩ : ∃ z, ofN W s qx qy = z := ⟨_, rfl⟩
        rw [hom] at HOF hid1
        have HID := hide hid1
        clear hin hom hid1
        by_cases hoi : om = id
        · rw [hoi] at HOF HID
          have hne : (id != id) = false := by simp
          have HIT : Hid (inId W H s id (cs.getD k (0, 0)) = true) := hide (by rw [HGD.out, HID.out]; simp)
          clear hoi
          go_wp2_with fail
          refine (HOF.out _).mono ?_
          rintro e w5 ⟨rfl, hb5⟩
          have MC : Hid (Blk w5 (wr.heap.size) 28 #[.int .i64 qx, .int .i64 qy]) := hide (by refine Blk.ext ?_ hb5; (repeat' (first | exact Blk.new_ (by simp) | refine Blk.drew ?_ | refine Blk.over ?_)))
          have hx5 : Ext wr w5 := (by (with_reducible (repeat' (first | exact Ext.refl _ | assumption | refine Ext.drew ?_ | refine Ext.drewN ?_ _ | refine Ext.alloc ?_ _ | refine Ext.setCell ?_ ?_ _ | refine Ext.trans ?_ (by assumption)))); all_goals (first | (simp; done) | (simp; omega)))
          have HX5 := hide hx5
          clear hb5 p0 p1 p2 pz d0 d1
          obtain ⟨mb, hmb⟩ : ∃ z, wr.heap.size = z := ⟨_, rfl⟩
          rw [hmb] at MC ⊢
          clear hmb
          have c0 := MC.out.at 0 rfl; have c1 := MC.out.at 1 rfl; have cz := MC.out.lt
          by_cases hk0 : k = 0
          · subst hk0
            have HN := hide (cellsE_next HCE.out (by unfold cellBad; rw [if_neg (by rw [HIT.out]; simp), if_neg (fun h => absurd h.1 (Nat.lt_irrefl 0))]))
            clear END hx5
            go_wp2_with fail
            refine seqH_start (S := (fun W => (∀ b o, b < w5.heap.size → W.cell? ⟨b, o, none⟩ = w5.cell? ⟨b, o, none⟩) ∧ Ext w5 W)) [(0, true), (1, true), (2, true), (3, true), (4, true), (5, true), (6, true), (7, true), (8, true), (9, true), (10, true), (11, true), (12, true)] (by kernel_rfl) (by kernel_rfl) (by kernel_rfl) (by decide) (fun _ _ d _ _ h => by cases d <;> exact h) (by first | with_reducible exact pr_start _ | exact pr_of (by (with_reducible (repeat' (first | exact Ext.refl _ | assumption | refine Ext.drew ?_ | refine Ext.drewN ?_ _ | refine Ext.alloc ?_ _ | refine Ext.setCell ?_ ?_ _ | refine Ext.trans ?_ (by assumption)))); all_goals (first | (simp; done) | (simp; omega)))) (fun hHeld => ?_)
            iterate 13 (apply SeqH.free; (· (simp only [List.getElem?_toArray, List.getElem?_cons_succ, List.getElem?_cons_zero]; rfl)); (· first | exact Or.inr ⟨by rfl, rfl⟩ | (refine Or.inl ⟨by rfl, ?_⟩; intro w hSw; (try dsimp only at hSw); go_simp; try with_reducible rfl)); try simp only [Act.put, List.setIfInBounds_toArray, List.set_cons_zero, List.set_cons_succ])
            refine SeqH.done ?_
            have hx6 := hHeld.2
            clear hHeld
            go_wp2_with fail
            go_roundw
            case rel => exact ⟨1, by omega, by go_num, rfl, HN.out, (XR.out.trans HX5.out).trans hx6⟩
            case measure => simp [intOf]; omega
          · obtain ⟨k', rfl⟩ : ∃ k', k = k' + 1 := ⟨k - 1, by omega⟩
            have hkl : k' < cs.length := by rw [HM.out]; omega
            have hq1 := HCC.out k' hkl
            have hgd1 : cs.getD k' (0, 0) = cs[k'] := by simp [List.getD_eq_getElem?_getD, hkl]
            obtain ⟨⟨px, py⟩, hpe⟩ : ∃ q, cs[k'] = q := ⟨_, rfl⟩
            rw [hpe] at hq1 hgd1
            have hxw5 := HXW.out.trans hx5
            have e0 := (hxw5.cell (p := ⟨b, off + k' * 2, none⟩) HB.out).trans hq1.1
            have e1 := (hxw5.cell (p := ⟨b, off + k' * 2 + 1, none⟩) HB.out).trans hq1.2
            have zb5 : b < w5.heap.size := Nat.lt_of_lt_of_le HB.out hxw5.size
            have HRI := hide (fun w' => iRises_any (px, py) (qx, qy) w')
            have HBD : Hid (cellBad W H s id cs (k' + 1) = if riseB (px, py) (qx, qy) = false then 11 else 0) := hide (by
              unfold cellBad
              rw [if_neg (by rw [HIT.out]; simp), HGD.out, Nat.add_sub_cancel, hgd1]
              by_cases h : riseB (px, py) (qx, qy) = false
              · rw [if_pos ⟨Nat.succ_pos _, h⟩, if_pos h]
              · rw [if_neg (fun k => h k.2), if_neg h])
            have jk' : (k' : Int) < (m : Int) := by omega
            have s1 : IntKind.i64.wrap ((k' : Int) + 1 - 1) = (k' : Int) := by rw [Int.add_sub_cancel]; exact IntWalk.i64_in _ (by omega)
            have s3 : IntKind.i64.wrap (k' : Int) = (k' : Int) := IntWalk.i64_in _ (by omega)
            have s2 : decide ((0 : Int) < (k' : Int) + 1) = true := by simp <;> omega
            clear hq1 hgd1 hpe hkl hxw5 hk0
            simp only at HRI
            cases hri : riseB (px, py) (qx, qy)
            · rw [hri] at HRI HBD
              have HE := hide (END.out 11 (by rw [HBD.out]; rfl) (by decide))
              clear END HBD hri
              go_wp2_with fail
              refine seqH_start (S := (fun W => (∀ b o, b < w5.heap.size → W.cell? ⟨b, o, none⟩ = w5.cell? ⟨b, o, none⟩) ∧ Ext w5 W)) [(0, true), (1, true), (2, true), (3, true), (4, true), (5, true), (6, true), (7, true), (8, true), (9, false), (10, true), (11, true), (12, true)] (by kernel_rfl) (by kernel_rfl) (by kernel_rfl) (by decide) (fun _ _ d _ _ h => by cases d <;> exact h) (by first | with_reducible exact pr_start _ | exact pr_of (by (with_reducible (repeat' (first | exact Ext.refl _ | assumption | refine Ext.drew ?_ | refine Ext.drewN ?_ _ | refine Ext.alloc ?_ _ | refine Ext.setCell ?_ ?_ _ | refine Ext.trans ?_ (by assumption)))); all_goals (first | (simp; done) | (simp; omega)))) (fun hHeld => ?_)
              iterate 9 (apply SeqH.free; (· (simp only [List.getElem?_toArray, List.getElem?_cons_succ, List.getElem?_cons_zero]; rfl)); (· first | exact Or.inr ⟨by rfl, rfl⟩ | (refine Or.inl ⟨by rfl, ?_⟩; intro w hSw; (try dsimp only at hSw); go_simp; try with_reducible rfl)); try simp only [Act.put, List.setIfInBounds_toArray, List.set_cons_zero, List.set_cons_succ])
              (apply SeqH.step; (· (simp only [List.getElem?_toArray, List.getElem?_cons_succ, List.getElem?_cons_zero]; rfl)); intro K hK; go_simp; refine (HRI.out _).mono ?_; rintro e w8 ⟨rfl, hb8⟩; go_wp2_with fail; refine hK.out _ _ (pr_of (by (with_reducible (repeat' (first | exact Ext.refl _ | assumption | refine Ext.drew ?_ | refine Ext.drewN ?_ _ | refine Ext.alloc ?_ _ | refine Ext.setCell ?_ ?_ _ | refine Ext.trans ?_ (by assumption)))); all_goals (first | (simp; done) | (simp; omega)))) (fun hHeld => ?_); clear hK K; try simp only [Act.put, List.setIfInBounds_toArray, List.set_cons_zero, List.set_cons_succ])
              iterate 3 (apply SeqH.free; (· (simp only [List.getElem?_toArray, List.getElem?_cons_succ, List.getElem?_cons_zero]; rfl)); (· first | exact Or.inr ⟨by rfl, rfl⟩ | (refine Or.inl ⟨by rfl, ?_⟩; intro w hSw; (try dsimp only at hSw); go_simp; try with_reducible rfl)); try simp only [Act.put, List.setIfInBounds_toArray, List.set_cons_zero, List.set_cons_succ])
              refine SeqH.done ?_
              have hx8 := hx5.trans hHeld.2
              clear hHeld hb8 hx5 e0 e1 c0 c1 cz zb5
              have hx5 := hx8
              clear hx8
              have BFn := hide (Blk.ext BFr.out hx5)
              have BRn := hide (Blk.ext BRr.out hx5)
              have BBn := hide (Blk.ext BBr.out hx5)
              have hxx := HXW.out.trans hx5
              have f0 := BFn.out.at 0 rfl; have f1 := BFn.out.at 1 rfl; have f2 := BFn.out.at 2 rfl; have fz := BFn.out.lt
              have g0 := BBn.out.at 0 rfl; have g1 := BBn.out.at 1 rfl; have g2 := BBn.out.at 2 rfl; have g3 := BBn.out.at 3 rfl; have gz := BBn.out.lt
              have r0 := BRn.out.at 0 rfl; have r1 := BRn.out.at 1 rfl; have r2 := BRn.out.at 2 rfl; have r3 := BRn.out.at 3 rfl; have r4 := BRn.out.at 4 rfl; have r5 := BRn.out.at 5 rfl; have r6 := BRn.out.at 6 rfl; have rz := BRn.out.lt
              have t0 := BRn.out.frozen 0
              have t1 := BRn.out.frozen 1
              have t2 := BRn.out.frozen 2
              have t3 := BRn.out.frozen 3
              have t4 := BRn.out.frozen 4
              have t5 := BRn.out.frozen 5
              have t6 := BRn.out.frozen 6
              go_wp2_with fail
              rw [Exit.noGoto_ret]
              exact bodyPost_ret (v := .tuple #[.agg #[.int .i64 W, .int .i64 H, .slice a n c, .int .i64 X, .int .i64 Y, .int .i64 BW, .int .i64 BH], .int .i64 11]) (by simp [results, Try.results74, go_sem, *]) rfl ⟨by rw [HE.out], (by (with_reducible (repeat' (first | exact Ext.refl _ | assumption | refine Ext.drew ?_ | refine Ext.drewN ?_ _ | refine Ext.alloc ?_ _ | refine Ext.setCell ?_ ?_ _ | refine Ext.trans ?_ (by assumption)))); all_goals (first | (simp; done) | (simp; omega)))⟩
            · rw [hri] at HRI HBD
              have HN := hide (cellsE_next HCE.out (by rw [HBD.out]; rfl))
              clear END HBD hri hx5
              go_wp2_with fail
              refine seqH_start (S := (fun W => (∀ b o, b < w5.heap.size → W.cell? ⟨b, o, none⟩ = w5.cell? ⟨b, o, none⟩) ∧ Ext w5 W)) [(0, true), (1, true), (2, true), (3, true), (4, true), (5, true), (6, true), (7, true), (8, true), (9, false), (10, true), (11, true), (12, true)] (by kernel_rfl) (by kernel_rfl) (by kernel_rfl) (by decide) (fun _ _ d _ _ h => by cases d <;> exact h) (by first | with_reducible exact pr_start _ | exact pr_of (by (with_reducible (repeat' (first | exact Ext.refl _ | assumption | refine Ext.drew ?_ | refine Ext.drewN ?_ _ | refine Ext.alloc ?_ _ | refine Ext.setCell ?_ ?_ _ | refine Ext.trans ?_ (by assumption)))); all_goals (first | (simp; done) | (simp; omega)))) (fun hHeld => ?_)
              iterate 9 (apply SeqH.free; (· (simp only [List.getElem?_toArray, List.getElem?_cons_succ, List.getElem?_cons_zero]; rfl)); (· first | exact Or.inr ⟨by rfl, rfl⟩ | (refine Or.inl ⟨by rfl, ?_⟩; intro w hSw; (try dsimp only at hSw); go_simp; try with_reducible rfl)); try simp only [Act.put, List.setIfInBounds_toArray, List.set_cons_zero, List.set_cons_succ])
              (apply SeqH.step; (· (simp only [List.getElem?_toArray, List.getElem?_cons_succ, List.getElem?_cons_zero]; rfl)); intro K hK; go_simp; refine (HRI.out _).mono ?_; rintro e w8 ⟨rfl, hb8⟩; go_wp2_with fail; refine hK.out _ _ (pr_of (by (with_reducible (repeat' (first | exact Ext.refl _ | assumption | refine Ext.drew ?_ | refine Ext.drewN ?_ _ | refine Ext.alloc ?_ _ | refine Ext.setCell ?_ ?_ _ | refine Ext.trans ?_ (by assumption)))); all_goals (first | (simp; done) | (simp; omega)))) (fun hHeld => ?_); clear hK K; try simp only [Act.put, List.setIfInBounds_toArray, List.set_cons_zero, List.set_cons_succ])
              iterate 3 (apply SeqH.free; (· (simp only [List.getElem?_toArray, List.getElem?_cons_succ, List.getElem?_cons_zero]; rfl)); (· first | exact Or.inr ⟨by rfl, rfl⟩ | (refine Or.inl ⟨by rfl, ?_⟩; intro w hSw; (try dsimp only at hSw); go_simp; try with_reducible rfl)); try simp only [Act.put, List.setIfInBounds_toArray, List.set_cons_zero, List.set_cons_succ])
              refine SeqH.done ?_
              have hx6 := hHeld.2
              clear hHeld hb8
              go_wp2_with fail
              go_roundw
              case rel => exact ⟨k' + 1 + 1, by omega, by go_num, rfl, HN.out, (XR.out.trans HX5.out).trans hx6⟩
              case measure => simp [intOf]; omega
        · have hne : (om != id) = true := by simpa using hoi
          have HE := hide (END.out 10 (by unfold cellBad; rw [HGD.out, HID.out]; simp [hoi]) (by decide))
          clear END hoi
          go_wp2_with fail
          refine (HOF.out _).mono ?_
          rintro e w5 ⟨rfl, hb5⟩
          have hx5 : Ext wr w5 := (by (with_reducible (repeat' (first | exact Ext.refl _ | assumption | refine Ext.drew ?_ | refine Ext.drewN ?_ _ | refine Ext.alloc ?_ _ | refine Ext.setCell ?_ ?_ _ | refine Ext.trans ?_ (by assumption)))); all_goals (first | (simp; done) | (simp; omega)))
          clear hb5
          have BFn := hide (Blk.ext BFr.out hx5)
          have BRn := hide (Blk.ext BRr.out hx5)
          have BBn := hide (Blk.ext BBr.out hx5)
          have hxx := HXW.out.trans hx5
          clear p0 p1 p2 pz d0 d1
          have f0 := BFn.out.at 0 rfl; have f1 := BFn.out.at 1 rfl; have f2 := BFn.out.at 2 rfl; have fz := BFn.out.lt
          have g0 := BBn.out.at 0 rfl; have g1 := BBn.out.at 1 rfl; have g2 := BBn.out.at 2 rfl; have g3 := BBn.out.at 3 rfl; have gz := BBn.out.lt
          have r0 := BRn.out.at 0 rfl; have r1 := BRn.out.at 1 rfl; have r2 := BRn.out.at 2 rfl; have r3 := BRn.out.at 3 rfl; have r4 := BRn.out.at 4 rfl; have r5 := BRn.out.at 5 rfl; have r6 := BRn.out.at 6 rfl; have rz := BRn.out.lt
          have t0 := BRn.out.frozen 0
          have t1 := BRn.out.frozen 1
          have t2 := BRn.out.frozen 2
          have t3 := BRn.out.frozen 3
          have t4 := BRn.out.frozen 4
          have t5 := BRn.out.frozen 5
          have t6 := BRn.out.frozen 6
          go_wp2_with fail
          rw [Exit.noGoto_ret]
          exact bodyPost_ret (v := .tuple #[.agg #[.int .i64 W, .int .i64 H, .slice a n c, .int .i64 X, .int .i64 Y, .int .i64 BW, .int .i64 BH], .int .i64 10]) (by simp [results, Try.results74, go_sem, *]) rfl ⟨by rw [HE.out], (by (with_reducible (repeat' (first | exact Ext.refl _ | assumption | refine Ext.drew ?_ | refine Ext.drewN ?_ _ | refine Ext.alloc ?_ _ | refine Ext.setCell ?_ ?_ _ | refine Ext.trans ?_ (by assumption)))); all_goals (first | (simp; done) | (simp; omega)))⟩
    · obtain rfl : k = m := by omega
      have HE := hide HCE.out
      have hxx := HX3.out.trans XR.out
      have f0 := BFr.out.at 0 rfl; have f1 := BFr.out.at 1 rfl; have f2 := BFr.out.at 2 rfl; have fz := BFr.out.lt
      have g0 := BBr.out.at 0 rfl; have g1 := BBr.out.at 1 rfl; have g2 := BBr.out.at 2 rfl; have g3 := BBr.out.at 3 rfl; have gz := BBr.out.lt
      have r0 := BRr.out.at 0 rfl; have r1 := BRr.out.at 1 rfl; have r2 := BRr.out.at 2 rfl; have r3 := BRr.out.at 3 rfl; have r4 := BRr.out.at 4 rfl; have r5 := BRr.out.at 5 rfl; have r6 := BRr.out.at 6 rfl; have rz := BRr.out.lt
      have t0 := BRr.out.frozen 0
      have t1 := BRr.out.frozen 1
      have t2 := BRr.out.frozen 2
      have t3 := BRr.out.frozen 3
      have t4 := BRr.out.frozen 4
      have t5 := BRr.out.frozen 5
      have t6 := BRr.out.frozen 6
      go_wp2_with fail
      rw [Exit.noGoto_ret]
      exact bodyPost_ret (v := .tuple #[.agg #[.int .i64 W, .int .i64 H, .slice a n c, .int .i64 X, .int .i64 Y, .int .i64 BW, .int .i64 BH], .int .i64 0]) (by simp [results, Try.results74, go_sem, *]) rfl ⟨by rw [HE.out], (by (with_reducible (repeat' (first | exact Ext.refl _ | assumption | refine Ext.drew ?_ | refine Ext.drewN ?_ _ | refine Ext.alloc ?_ _ | refine Ext.setCell ?_ ?_ _ | refine Ext.trans ?_ (by assumption)))); all_goals (first | (simp; done) | (simp; omega)))⟩
/-- look, whole. -/
def LookV (W H : Int) (a : Option Addr) (n c : Nat) (s id : Int) (er : Int) (v : Value) : Prop :=
  (er ≠ 0 ∧ ∃ x1 x2 a3 n3 c3 x4 x5 x6 x7, v = .agg #[.int .i64 x1, .int .i64 x2, .slice a3 n3 c3, .int .i64 x4, .int .i64 x5, .int .i64 x6, .int .i64 x7]) ∨
  (er = 0 ∧ v = .agg #[.int .i64 W, .int .i64 H, .slice a n c, .int .i64 (boxX W s id), .int .i64 (boxY W s id), .int .i64 (boxW W s id), .int .i64 (boxH W H s id)])
theorem iLook_any {w : World} (W H : Int) (a : Option Addr) (n c : Nat) (PW PH s id : Int) (ca : Option Addr) (cs : List Cell) (cc : Nat) (hc : RowC w ca cs) (hl : cs.length ≤ 1000000) (hi : ∀ p ∈ cs, InI p.1 ∧ InI p.2) :
    Calls Try.prog 74 #[.agg #[.int .i64 W, .int .i64 H, .slice a n c], .agg #[.int .i64 PW, .int .i64 PH, .int .i64 s], .int .i64 id, .slice ca cs.length cc] w fun e w' => (∃ v, e = .returned (.tuple #[v, .int .i64 (innerE W H n PW PH s id cs)]) ∧ LookV W H a n c s id (innerE W H n PW PH s id cs) v) ∧ Ext w w' := by
  by_cases h1 : checkE W H n = 0
  · by_cases h2 : PW = W ∧ PH = H
    · obtain ⟨rfl, rfl⟩ := h2
      have he : innerE PW PH n PW PH s id cs = if rightB PW PH s = true then (if bad PW PH s id = true then 10 else cellsE PW PH s id cs cs.length) else 1 := by unfold innerE; rw [if_pos h1, if_pos ⟨rfl, rfl⟩]
      have hh : hasE PW PH s [id] = if rightB PW PH s = true then (if bad PW PH s id = true then 10 else 0) else 1 := by unfold hasE; simp
      by_cases h3 : hasE PW PH s [id] = 0
      · have hr : rightB PW PH s = true := by
          cases k : rightB PW PH s
          · rw [hh, k] at h3; cases h3
          · rfl
        have hb : bad PW PH s id = false := by
          cases k : bad PW PH s id
          · rfl
          · rw [hh, hr, k] at h3; cases h3
        have hbi := bad_false_iff.1 hb
        rw [he, if_pos hr, if_neg (by rw [hb]; simp)]
        refine (iLook_cells PW PH a n c s id ca cs cc h1 hr hbi.1 hbi.2 hc hl hi).mono ?_
        rintro e w' ⟨rfl, hx⟩
        refine ⟨⟨_, rfl, ?_⟩, hx⟩
        by_cases h4 : cellsE PW PH s id cs cs.length = 0
        · exact .inr ⟨h4, rfl⟩
        · exact .inl ⟨h4, _, _, _, _, _, _, _, _, _, rfl⟩
      · have hee : innerE PW PH n PW PH s id cs = hasE PW PH s [id] := by
          rw [he, hh]
          cases k : rightB PW PH s
          · rfl
          · cases k2 : bad PW PH s id
            · rw [hh, k, k2] at h3; exact absurd rfl h3
            · rfl
        rw [hee]
        refine (iLook_box PW PH a n c s id ca cs.length cc h1 h3).mono ?_
        rintro e w' ⟨rfl, hx⟩
        exact ⟨⟨_, rfl, .inl ⟨h3, _, _, _, _, _, _, _, _, _, rfl⟩⟩, hx⟩
    · have hee : innerE W H n PW PH s id cs = 1 := by unfold innerE; rw [if_pos h1, if_neg h2]
      rw [hee]
      refine (iLook_size W H a n c PW PH s id ca cs.length cc h1 h2).mono ?_
      rintro e w' ⟨rfl, hx⟩
      exact ⟨⟨_, rfl, .inl ⟨by decide, _, _, _, _, _, _, _, _, _, rfl⟩⟩, hx⟩
  · have hee : innerE W H n PW PH s id cs = checkE W H n := by unfold innerE; rw [if_neg h1]
    rw [hee]
    refine (iLook_field W H a n c PW PH s id ca cs.length cc h1).mono ?_
    rintro e w' ⟨rfl, hx⟩
    exact ⟨⟨_, rfl, .inl ⟨h1, _, _, _, _, _, _, _, _, _, rfl⟩⟩, hx⟩
end Go.Proofs.Ytifbmapianddcaa

/- Walks of layer 13: Of, To, Back. -/
namespace Go.Proofs.Ytifbmapianddcaa
open Go.RowKit

theorem RowsAt.touch {S : Nat → Prop} {w w' : World} {base : Nat} {v : Value} {ll : List (List Int)} (h : RowsAt w base v ll) (t : Touch S w w') (hs : ∀ k, base ≤ k → ¬ S k) : RowsAt w' base v ll := by
  obtain ⟨ss, h1, h2, h3⟩ := h
  exact ⟨ss, Own.touch h1 t (fun k hk => hs k (own_lt h1 hk).1), h2, fun i s r hs' hr => Own.touch (h3 i s r hs' hr) t (fun k hk => hs k (own_lt (h3 i s r hs' hr) hk).1)⟩
theorem RowsAt.lower {w : World} {base base' : Nat} {v : Value} {ll : List (List Int)} (h : RowsAt w base v ll) (hb : base' ≤ base) : RowsAt w base' v ll := by
  obtain ⟨ss, h1, h2, h3⟩ := h
  exact ⟨ss, h1.lower hb, h2, fun i s r hs' hr => (h3 i s r hs' hr).lower hb⟩
theorem touch2 (w : World) (g : Nat) (x y : Value) : Touch (fun j => j = g) w ((w.setCell ⟨g, 0, none⟩ x).setCell ⟨g, 1, none⟩ y) :=
  ((Touch.refl (fun j => j = g) w).setCell (p := ⟨g, 0, none⟩) (.inl rfl) x).setCell (p := ⟨g, 1, none⟩) (.inl rfl) y

/-- A cluster's place. -/
def PlaceAt (w : World) (pb : Nat) (W H : Int) (a : Option Addr) (n c : Nat) (bx byy bw bh : Int) : Prop := Blk w pb 134 #[.int .i64 W, .int .i64 H, .slice a n c, .int .i64 bx, .int .i64 byy, .int .i64 bw, .int .i64 bh]

set_option maxRecDepth 100000 in
theorem iOf1_any {w : World} {W H : Int} {a : Option Addr} {l : List Int} {bx byy bw bh : Int} (L : LandP W H l bx byy bw bh) (c : Nat) {pb qb : Nat} (q : Cell) (hq : hasB bx byy bw bh q.1 q.2 = true) {ca : Option Addr} {cs : List Cell} (cc : Nat) (hcs : ∀ q, q ∈ cs → hasB bx byy bw bh q.1 q.2 = true) (hl : cs.length ≤ 1000000) (hr : Row16 w a l) (hc : RowC w ca cs)
    (hP : PlaceAt w pb W H a l.length c bx byy bw bh) (hQ : w.cell? ⟨qb, 0, none⟩ = some (.slice ca cs.length cc)) :
    Calls Try.prog 76 (#[.agg #[.int .i64 q.1, .int .i64 q.2]] ++ #[.pointer (some ⟨pb, 0, none⟩), .pointer (some ⟨qb, 0, none⟩)]) w fun e w' => ∃ s : Option Addr × Nat × Nat, e = .returned (.slice s.1 s.2.1 s.2.2) ∧ Ext w w' ∧ Own u64E w' w.heap.size 38 (.slice s.1 s.2.1 s.2.2) (rowD L cs q) := by
  have HF := hide (fun (w' : World) (hx : Ext w w') => iFar_ok (w := w') L c q hq cc hcs hl (hr.ext hx) (hc.ext hx))
  have b0 : w.cell? ⟨pb, 0, none⟩ = some (.int .i64 W) := Blk.at hP 0 rfl
  have b1 : w.cell? ⟨pb, 1, none⟩ = some (.int .i64 H) := Blk.at hP 1 rfl
  have b2 : w.cell? ⟨pb, 2, none⟩ = some (.slice a l.length c) := Blk.at hP 2 rfl
  have b3 : w.cell? ⟨pb, 3, none⟩ = some (.int .i64 bx) := Blk.at hP 3 rfl
  have b4 : w.cell? ⟨pb, 4, none⟩ = some (.int .i64 byy) := Blk.at hP 4 rfl
  have b5 : w.cell? ⟨pb, 5, none⟩ = some (.int .i64 bw) := Blk.at hP 5 rfl
  have b6 : w.cell? ⟨pb, 6, none⟩ = some (.int .i64 bh) := Blk.at hP 6 rfl
  have zp : pb < w.heap.size := Blk.lt hP
  have zq := World.block_lt_of_cell? w _ hQ
  simp only at zq
  obtain ⟨n, hnn⟩ : ∃ z, l.length = z := ⟨_, rfl⟩
  obtain ⟨m, hmm⟩ : ∃ z, cs.length = z := ⟨_, rfl⟩
  rw [hnn, hmm] at HF
  rw [hnn] at b2
  rw [hmm] at hQ
  obtain ⟨x, y⟩ := q
  clear hq hcs hl hr hc hP hnn hmm
  simp only [List.append_toArray] at *
  go_enter Try.func76, Try.ntmps76
  go_wp2_with fail
  refine (HF.out _ (by (with_reducible (repeat' (first | exact Ext.refl _ | assumption | refine Ext.drew ?_ | refine Ext.drewN ?_ _ | refine Ext.alloc ?_ _ | refine Ext.setCell ?_ ?_ _ | refine Ext.trans ?_ (by assumption)))); all_goals (first | (simp; done) | (simp; omega)))).mono ?_
  rintro e w1 ⟨sv, rfl, hb1, ho1⟩
  have O1 := hide (ho1.lower (base' := w.heap.size) (by simp))
  have hx1 : Ext w w1 := (by (with_reducible (repeat' (first | exact Ext.refl _ | assumption | refine Ext.drew ?_ | refine Ext.drewN ?_ _ | refine Ext.alloc ?_ _ | refine Ext.setCell ?_ ?_ _ | refine Ext.trans ?_ (by assumption)))); all_goals (first | (simp; done) | (simp; omega)))
  clear hb1 ho1
  go_wp2_with fail
  go_ret
  exact ⟨sv, rfl, hx1, O1.out⟩

/-- What a table is asked for. -/
def CellsOk (W H s id : Int) (cs : List Cell) : Prop := ∀ q, q ∈ cs → hasB (boxX W s id) (boxY W s id) (boxW W s id) (boxH W H s id) q.1 q.2 = true
theorem cells_ok {W H s id : Int} (hr : rightB W H s = true) (hi : 0 ≤ id ∧ id < cnt W H s) {cs : List Cell} (h : cellsE W H s id cs cs.length = 0) : CellsOk W H s id cs := fun q hq => by
  obtain ⟨k, hk, rfl⟩ := List.getElem_of_mem hq
  have h1 := cellBad_zero (cellsE_zero h k hk)
  rw [inId_has hr hi] at h1
  simpa [List.getD_eq_getElem?_getD, hk] using h1

set_option maxRecDepth 100000 in
theorem iOf_bad {w : World} (W H : Int) (a : Option Addr) (n c : Nat) (PW PH s id : Int) (ca : Option Addr) (cs : List Cell) (cc : Nat) (hc : RowC w ca cs) (hl : cs.length ≤ 1000000) (hi : ∀ p ∈ cs, InI p.1 ∧ InI p.2) (he : innerE W H n PW PH s id cs ≠ 0) :
    Calls Try.prog 25 #[.agg #[.int .i64 W, .int .i64 H, .slice a n c], .agg #[.int .i64 PW, .int .i64 PH, .int .i64 s], .int .i64 id, .slice ca cs.length cc] w fun e w' => e = .returned (.tuple #[.agg #[.slice none 0 0, .slice none 0 0], .int .i64 (innerE W H n PW PH s id cs)]) ∧ Ext w w' := by
  have HL := hide (fun (w' : World) (hx : Ext w w') => iLook_any (w := w') W H a n c PW PH s id ca cs cc (hc.ext hx) hl hi)
  generalize innerE W H n PW PH s id cs = er at *
  have hb : (er != 0) = true := by simpa using he
  have HER := hide he
  obtain ⟨m, hm⟩ : ∃ z, cs.length = z := ⟨_, rfl⟩
  rw [hm] at HL ⊢
  clear hc hl hi he hm
  go_enter Try.func25, Try.ntmps25
  go_wp2_with fail
  refine (HL.out _ (by (with_reducible (repeat' (first | exact Ext.refl _ | assumption | refine Ext.drew ?_ | refine Ext.drewN ?_ _ | refine Ext.alloc ?_ _ | refine Ext.setCell ?_ ?_ _ | refine Ext.trans ?_ (by assumption)))); all_goals (first | (simp; done) | (simp; omega)))).mono ?_
  rintro e w1 ⟨⟨v, rfl, hv⟩, hb1⟩
  obtain ⟨hc1, hf1⟩ := hb1.cells; have hz1 := hb1.size; (repeat (first | rw [World.size_alloc] at hz1 | rw [World.size_drew] at hz1)); have z1_0 : w.heap.size < w1.heap.size := (by omega); have z1_1 : w.heap.size + 1 < w1.heap.size := (by omega); have z1_2 : w.heap.size + 2 < w1.heap.size := (by omega); have z1_3 : w.heap.size + 3 < w1.heap.size := (by omega)
  rcases hv with ⟨_, x1, x2, a3, n3, c3, x4, x5, x6, x7, rfl⟩ | ⟨h0, _⟩
  · go_wp2_with fail
    exact bodyPost_ret (v := .tuple #[.agg #[.slice none 0 0, .slice none 0 0], .int .i64 er]) (by simp [results, Try.results25, go_sem, *]) rfl ⟨rfl, (by (with_reducible (repeat' (first | exact Ext.refl _ | assumption | refine Ext.drew ?_ | refine Ext.drewN ?_ _ | refine Ext.alloc ?_ _ | refine Ext.setCell ?_ ?_ _ | refine Ext.trans ?_ (by assumption)))); all_goals (first | (simp; done) | (simp; omega)))⟩
  · exact absurd h0 HER.out

set_option maxRecDepth 100000 in
set_option maxHeartbeats 400000 in
theorem iOf_ok {w : World} {W H : Int} {a : Option Addr} {l : List Int} (c : Nat) {PW PH s id : Int} {ca : Option Addr} {cs : List Cell} (cc : Nat) (hr : Row16 w a l) (hu : U16s l) (hc : RowC w ca cs) (hl : cs.length ≤ 1000000) (hi : ∀ p ∈ cs, InI p.1 ∧ InI p.2) (he : innerE W H l.length PW PH s id cs = 0) (L : boxL W H s id l) :
    Calls Try.prog 25 #[.agg #[.int .i64 W, .int .i64 H, .slice a l.length c], .agg #[.int .i64 PW, .int .i64 PH, .int .i64 s], .int .i64 id, .slice ca cs.length cc] w fun e w' => ∃ v1 v2, e = .returned (.tuple #[.agg #[v1, v2], .int .i64 0]) ∧ Ext w w' ∧ Own cellE w' w.heap.size 28 v1 cs ∧ RowsAt w' w.heap.size v2 (cs.map (rowD L cs)) := by
  obtain ⟨e1, e2, e3, e4, e5, e6⟩ := innerE_ok.1 he
  have hok := cells_ok e4 e5 e6
  have HL := hide (fun (w' : World) (hx : Ext w w') => iLook_any (w := w') W H a l.length c PW PH s id ca cs cc (hc.ext hx) hl hi)
  rw [he] at HL
  have HO := hide (fun (w' : World) (pb qb : Nat) (hx : Ext w w') (hP : PlaceAt w' pb W H a l.length c (boxX W s id) (boxY W s id) (boxW W s id) (boxH W H s id)) (hQ : w'.cell? ⟨qb, 0, none⟩ = some (.slice ca cs.length cc)) (q : Cell) (hq : q ∈ cs) => iOf1_any (w := w') (pb := pb) (qb := qb) L c q (hok q hq) cc hok hl (hr.ext hx) (hc.ext hx) hP hQ)
  have HCL := hide (fun (w' : World) (hx : Ext w w') => cloneCell_any (w := w') cc hl (hc.ext hx))
  have HCO := hide (fun (w' : World) (hx : Ext w w') => hc.ext hx)
  obtain ⟨n, hn⟩ : ∃ z, l.length = z := ⟨_, rfl⟩
  rw [hn] at HL HO ⊢
  obtain ⟨m, hm⟩ : ∃ z, cs.length = z := ⟨_, rfl⟩
  have HM := hide hm
  rw [hm] at HL HO HCL hl ⊢
  clear hc hi he hr hu hok hn hm e1 e2 e3 e4 e5 e6
  go_enter Try.func25, Try.ntmps25
  go_wp2_with fail
  refine (HL.out _ (by (with_reducible (repeat' (first | exact Ext.refl _ | assumption | refine Ext.drew ?_ | refine Ext.drewN ?_ _ | refine Ext.alloc ?_ _ | refine Ext.setCell ?_ ?_ _ | refine Ext.trans ?_ (by assumption)))); all_goals (first | (simp; done) | (simp; omega)))).mono ?_
  rintro e w1 ⟨⟨v, rfl, hv⟩, hb1⟩
  have BQ1 : Hid (Blk w1 (w.heap.size + 2) 37 #[.slice ca m cc]) := hide (by refine Blk.ext ?_ hb1; (repeat' (first | exact Blk.new_ (by simp) | refine Blk.drew ?_ | refine Blk.over ?_)))
  have BR1 : Hid (Blk w1 (w.heap.size + 3) 57 #[.slice none 0 0, .slice none 0 0]) := hide (by refine Blk.ext ?_ hb1; (repeat' (first | exact Blk.new_ (by simp) | refine Blk.drew ?_ | refine Blk.over ?_)))
  have HX1 := hide (show Ext w w1 from (by (with_reducible (repeat' (first | exact Ext.refl _ | assumption | refine Ext.drew ?_ | refine Ext.drewN ?_ _ | refine Ext.alloc ?_ _ | refine Ext.setCell ?_ ?_ _ | refine Ext.trans ?_ (by assumption)))); all_goals (first | (simp; done) | (simp; omega))))
  clear hb1
  rcases hv with ⟨h0, _⟩ | ⟨_, rfl⟩
  · exact absurd rfl h0
  · have q0 := BQ1.out.at 0 rfl; have qz := BQ1.out.lt
    go_wp2_with fail
    obtain ⟨w2, hw2⟩ : ∃ w2, w2 = w1.alloc (.cells #[.int .i64 W, .int .i64 H, .slice a n c, .int .i64 (boxX W s id), .int .i64 (boxY W s id), .int .i64 (boxW W s id), .int .i64 (boxH W H s id)] 134) := ⟨_, rfl⟩
    have hx2 : Ext w1 w2 := by rw [hw2]; exact (Ext.refl _).alloc _
    have PL2 := hide (show PlaceAt w2 w1.heap.size W H a n c (boxX W s id) (boxY W s id) (boxW W s id) (boxH W H s id) by rw [hw2]; exact Blk.new_ rfl)
    have BQ2 := hide (Blk.ext BQ1.out hx2)
    have BR2 := hide (Blk.ext BR1.out hx2)
    have HX2 := hide (HX1.out.trans hx2)
    have HC2 := hide (HCO.out w2 HX2.out)
    have hz1 : w.heap.size + 3 < w1.heap.size := BR1.out.lt
    have hz12 := hx2.size
    have hz23 : w2.heap.size = w1.heap.size + 1 := by rw [hw2]; simp
    have HZ23 := hide hz23
    rw [← hw2]
    clear hw2 hx2 q0 qz BQ1 BR1 HX1 hz23
    have HE := eachRow_any (w := w2) (f := 76) (caps := #[.pointer (some ⟨w1.heap.size, 0, none⟩), .pointer (some ⟨w.heap.size + 2, 0, none⟩)]) (g := rowD L cs) cc (by rw [HM.out]; exact hl) HC2.out
      (fun w' hx q hq => HO.out w' w1.heap.size (w.heap.size + 2) (HX2.out.trans hx) (Blk.ext PL2.out hx) (by exact (Blk.ext BQ2.out hx).at 0 rfl) q hq)
      (enters_of Try.func76 (by kernel_rfl) rfl)
    rw [HM.out] at HE
    refine HE.mono ?_
    rintro e w3 ⟨v2, rfl, hx3, hrows⟩
    have hz2 := HX2.out.size
    have hz34 := hx3.size
    have R3 := hide hrows
    have BQ3 := hide (Blk.ext BQ2.out hx3)
    have BR3 := hide (Blk.ext BR2.out hx3)
    have HX3 := hide (HX2.out.trans hx3)
    obtain ⟨ss, hss, _⟩ := hrows
    obtain ⟨ra, rc, hrv⟩ := hss.slice
    subst hrv
    clear hss hx3 BQ2 BR2 PL2 HE
    have q0 := BQ3.out.at 0 rfl; have qz := BQ3.out.lt
    go_wp2_with fail
    refine (HCL.out _ HX3.out).mono ?_
    rintro e w4 ⟨v1, rfl, hx4, ho4⟩
    have hz3 := HX3.out.size
    have R4 := hide (R3.out.ext hx4)
    have O4 := hide ho4
    have BR4 := hide (Blk.ext BR3.out hx4)
    have HX4 := hide (HX3.out.trans hx4)
    obtain ⟨sa, sc, hsv⟩ := ho4.slice
    subst hsv
    clear hx4 ho4 q0 qz BR3 BQ3
    have r0 := BR4.out.at 0 rfl; have r1 := BR4.out.at 1 rfl; have rz := BR4.out.lt
    have f0 := BR4.out.frozen 0
    have f1 := BR4.out.frozen 1
    have FIN : Hid (∀ w', Touch (fun j => j = w.heap.size + 3) w4 w' → Ext w w' ∧ Own cellE w' w.heap.size 28 (.slice sa cs.length sc) cs ∧ RowsAt w' w.heap.size (.slice ra ss.length rc) (cs.map (rowD L cs))) := hide (fun w' tt => ⟨((Touch.of_ext (S := fun _ => False) HX4.out).after tt (fun j hj e => by omega)).ext, (Own.touch O4.out tt (fun k hk e => by have := (own_lt O4.out hk).1; omega)).lower (by omega), (R4.out.touch tt (fun k hk e => by omega)).lower (by omega)⟩)
    go_wp2_with fail
    exact bodyPost_ret (v := .tuple #[.agg #[.slice sa cs.length sc, .slice ra ss.length rc], .int .i64 0]) (by simp [results, Try.results25, go_sem, *]) rfl ⟨_, _, rfl, FIN.out _ (touch2 w4 _ _ _)⟩
end Go.Proofs.Ytifbmapianddcaa

/- Walk of the reference's May, of chapter 13. -/
namespace Go.Proofs.Ytifbmapianddcaa
open Go.RowKit

set_option maxRecDepth 100000 in
theorem r13May_field {w : World} (W H : Int) (a : Option Addr) (n c : Nat) (PW PH s id : Int) (ca : Option Addr) (cn cc : Nat) (he : checkE W H n ≠ 0) :
    Calls Try.prog 26 #[.agg #[.int .i64 W, .int .i64 H, .slice a n c], .agg #[.int .i64 PW, .int .i64 PH], .int .i64 s, .int .i64 id, .slice ca cn cc] w fun e w' => e = .returned (.int .i64 (checkE W H n)) ∧ Ext w w' := by
  have H1 := hide (fun w' => r04Check_any W H a n c w')
  generalize checkE W H n = er at *
  have hb : (er != 0) = true := by simpa using he
  clear he
  go_enter Try.func26, Try.ntmps26
  go_wp2_with (go_at_call 79; refine (H1.out _).mono ?_; rintro e w1 ⟨rfl, hb1⟩; obtain ⟨hc1, hf1⟩ := hb1.cells; have hz1 := hb1.size; (repeat (first | rw [World.size_alloc] at hz1 | rw [World.size_drew] at hz1)); have z1_0 : w.heap.size < w1.heap.size := (by omega); have z1_1 : w.heap.size + 1 < w1.heap.size := (by omega))
  go_ret
  exact ⟨rfl, (by (with_reducible (repeat' (first | exact Ext.refl _ | assumption | refine Ext.drew ?_ | refine Ext.drewN ?_ _ | refine Ext.alloc ?_ _ | refine Ext.setCell ?_ ?_ _ | refine Ext.trans ?_ (by assumption)))); all_goals (first | (simp; done) | (simp; omega)))⟩

set_option maxRecDepth 100000 in
theorem r13May_size {w : World} (W H : Int) (a : Option Addr) (n c : Nat) (PW PH s id : Int) (ca : Option Addr) (cn cc : Nat) (he : checkE W H n = 0) (hs : ¬ (PW = W ∧ PH = H)) :
    Calls Try.prog 26 #[.agg #[.int .i64 W, .int .i64 H, .slice a n c], .agg #[.int .i64 PW, .int .i64 PH], .int .i64 s, .int .i64 id, .slice ca cn cc] w fun e w' => e = .returned (.int .i64 1) ∧ Ext w w' := by
  have H1 := hide (fun w' => r04Check_any W H a n c w')
  rw [he] at H1
  have hq := fun w => eq_size PW PH W H w
  rw [show (PW == W && PH == H) = false by rw [Bool.eq_false_iff]; intro h; simp only [Bool.and_eq_true, beq_iff_eq] at h; exact hs h] at hq
  clear he hs
  go_enter Try.func26, Try.ntmps26
  go_wp2_with (go_at_call 79; refine (H1.out _).mono ?_; rintro e w1 ⟨rfl, hb1⟩; obtain ⟨hc1, hf1⟩ := hb1.cells; have hz1 := hb1.size; (repeat (first | rw [World.size_alloc] at hz1 | rw [World.size_drew] at hz1)); have z1_0 : w.heap.size < w1.heap.size := (by omega); have z1_1 : w.heap.size + 1 < w1.heap.size := (by omega))
  go_ret
  exact ⟨rfl, (by (with_reducible (repeat' (first | exact Ext.refl _ | assumption | refine Ext.drew ?_ | refine Ext.drewN ?_ _ | refine Ext.alloc ?_ _ | refine Ext.setCell ?_ ?_ _ | refine Ext.trans ?_ (by assumption)))); all_goals (first | (simp; done) | (simp; omega)))⟩

set_option maxRecDepth 100000 in
theorem r13May_side {w : World} (W H : Int) (a : Option Addr) (n c : Nat) (s id : Int) (ca : Option Addr) (cn cc : Nat) (he : checkE W H n = 0) (hs : rightB W H s = false) :
    Calls Try.prog 26 #[.agg #[.int .i64 W, .int .i64 H, .slice a n c], .agg #[.int .i64 W, .int .i64 H], .int .i64 s, .int .i64 id, .slice ca cn cc] w fun e w' => e = .returned (.int .i64 1) ∧ Ext w w' := by
  have H1 := hide (fun w' => r04Check_any W H a n c w')
  rw [he] at H1
  have hq := fun w => eq_size W H W H w
  rw [show (W == W && H == H) = true by simp] at hq
  have H2 := hide (fun w' => rRight_any W H s w')
  rw [hs] at H2
  clear he hs
  go_enter Try.func26, Try.ntmps26
  go_wp2_with (first
    | (go_at_call 79; refine (H1.out _).mono ?_; rintro e w1 ⟨rfl, hb1⟩; obtain ⟨hc1, hf1⟩ := hb1.cells; have hz1 := hb1.size; (repeat (first | rw [World.size_alloc] at hz1 | rw [World.size_drew] at hz1)); have z1_0 : w.heap.size < w1.heap.size := (by omega); have z1_1 : w.heap.size + 1 < w1.heap.size := (by omega))
    | (go_at_call 60; refine (H2.out _).mono ?_; rintro e w2 ⟨rfl, hb2⟩; obtain ⟨hc2, hf2⟩ := hb2.cells; have hz2 := hb2.size; (repeat (first | rw [World.size_alloc] at hz2 | rw [World.size_drew] at hz2)); have z2_0 : w.heap.size < w2.heap.size := (by omega); have z2_1 : w.heap.size + 1 < w2.heap.size := (by omega)))
  go_ret
  exact ⟨rfl, (by (with_reducible (repeat' (first | exact Ext.refl _ | assumption | refine Ext.drew ?_ | refine Ext.drewN ?_ _ | refine Ext.alloc ?_ _ | refine Ext.setCell ?_ ?_ _ | refine Ext.trans ?_ (by assumption)))); all_goals (first | (simp; done) | (simp; omega)))⟩

set_option maxRecDepth 100000 in
theorem r13May_id {w : World} (W H : Int) (a : Option Addr) (n c : Nat) (s id : Int) (ca : Option Addr) (cn cc : Nat) (he : checkE W H n = 0) (hr : rightB W H s = true) (hid : ¬ (0 ≤ id ∧ id < cnt W H s)) :
    Calls Try.prog 26 #[.agg #[.int .i64 W, .int .i64 H, .slice a n c], .agg #[.int .i64 W, .int .i64 H], .int .i64 s, .int .i64 id, .slice ca cn cc] w fun e w' => e = .returned (.int .i64 10) ∧ Ext w w' := by
  have H1 := hide (fun w' => r04Check_any W H a n c w')
  rw [he] at H1
  have hq := fun w => eq_size W H W H w
  rw [show (W == W && H == H) = true by simp] at hq
  have H2 := hide (fun w' => rRight_any W H s w')
  rw [hr] at H2
  have HR := hide hr
  have b0 := cnt_bd hr
  have hl := boxesAll_len hr
  obtain ⟨N, hN⟩ : ∃ N : Nat, (boxesAll W H s).length = N := ⟨_, rfl⟩
  have hN' : (boxesR W H s (acr H s).toNat).length = N := hN
  have nb : N ≤ 65536 := by omega
  have hid' : id < 0 ∨ (N : Int) ≤ id := by omega
  clear hl hid b0 he hr
  rcases hid' with hid' | hid'
  all_goals
    go_enter Try.func26, Try.ntmps26
    go_wp2_with (first
      | (go_at_call 79; refine (H1.out _).mono ?_; rintro e w1 ⟨rfl, hb1⟩; obtain ⟨hc1, hf1⟩ := hb1.cells; have hz1 := hb1.size; (repeat (first | rw [World.size_alloc] at hz1 | rw [World.size_drew] at hz1)); have z1_0 : w.heap.size < w1.heap.size := (by omega); have z1_1 : w.heap.size + 1 < w1.heap.size := (by omega))
      | (go_at_call 60; refine (H2.out _).mono ?_; rintro e w2 ⟨rfl, hb2⟩; obtain ⟨hc2, hf2⟩ := hb2.cells; have hz2 := hb2.size; (repeat (first | rw [World.size_alloc] at hz2 | rw [World.size_drew] at hz2)); have z2_0 : w.heap.size < w2.heap.size := (by omega); have z2_1 : w.heap.size + 1 < w2.heap.size := (by omega))
      | (go_at_call 28; refine (rBoxes_any _ _ _ _ HR.out).mono ?_; rintro e w3 ⟨v3, rfl, hb3, hv3⟩; obtain ⟨ao, co, rfl⟩ := hv3.slice; have HV := hide hv3; clear hv3; obtain ⟨hc3, hf3⟩ := hb3.cells; have hz3 := hb3.size; (repeat (first | rw [World.size_alloc] at hz3 | rw [World.size_drew] at hz3)); have z3_0 : w.heap.size < w3.heap.size := (by omega); have z3_1 : w.heap.size + 1 < w3.heap.size := (by omega)))
    go_ret
    exact ⟨rfl, (by (with_reducible (repeat' (first | exact Ext.refl _ | assumption | refine Ext.drew ?_ | refine Ext.drewN ?_ _ | refine Ext.alloc ?_ _ | refine Ext.setCell ?_ ?_ _ | refine Ext.trans ?_ (by assumption)))); all_goals (first | (simp; done) | (simp; omega)))⟩

set_option maxRecDepth 100000 in
set_option maxHeartbeats 2000000 in
theorem r13May_cells {w : World} (W H : Int) (a : Option Addr) (n c : Nat) (s : Int) (K : Nat) (ca : Option Addr) (cs : List Cell) (cc : Nat) (he : checkE W H n = 0) (hr : rightB W H s = true) (hid : (K : Int) < cnt W H s) (hc : RowC w ca cs) (hl : cs.length ≤ 1000000) (hi : ∀ p ∈ cs, InI p.1 ∧ InI p.2) :
    Calls Try.prog 26 #[.agg #[.int .i64 W, .int .i64 H, .slice a n c], .agg #[.int .i64 W, .int .i64 H], .int .i64 s, .int .i64 (K : Int), .slice ca cs.length cc] w fun e w' => e = .returned (.int .i64 (cellsE W H s (K : Int) cs cs.length)) ∧ Ext w w' := by
  have H1 := hide (fun w' => r04Check_any W H a n c w')
  rw [he] at H1
  have hq := fun w => eq_size W H W H w
  rw [show (W == W && H == H) = true by simp] at hq
  have H2 := hide (fun w' => rRight_any W H s w')
  rw [hr] at H2
  have HR := hide hr
  have b0 := cnt_bd hr
  have hbl := boxesAll_len hr
  have hba := boxesAll_at hr K hid
  have bb := box_bd hr (id := (K : Int)) (by omega) hid
  have HIS := hide (fun q => inId_has hr ⟨Int.natCast_nonneg K, hid⟩ q)
  have HBA := hide hba
  obtain ⟨N, hN⟩ : ∃ N : Nat, (boxesAll W H s).length = N := ⟨_, rfl⟩
  have hN' : (boxesR W H s (acr H s).toNat).length = N := hN
  have nb : N ≤ 65536 := by omega
  have jK : (K : Int) < (N : Int) := by omega
  have jK' : K < N := by omega
  have HC := hide hc
  have HIN := hide hi
  have HN' := hide hN'
  have hbp : boxP W H s (K : Int) = ((boxX W s K, boxY W s K), (boxW W s K, boxH W H s K)) := rfl
  rw [hbp] at HBA
  obtain ⟨m, hm⟩ : ∃ z, cs.length = z := ⟨_, rfl⟩
  have HM := hide hm
  rw [hm] at hl ⊢
  have HB0 := hide (show 0 ≤ boxX W s (K : Int) ∧ 0 ≤ boxY W s (K : Int) from ⟨by omega, by omega⟩)
  clear hbl hid b0 he hr hba bb hc hi hm hN hbp
  generalize boxX W s (K : Int) = X at *
  generalize boxY W s (K : Int) = Y at *
  generalize boxW W s (K : Int) = BW at *
  generalize boxH W H s (K : Int) = BH at *
  go_enter Try.func26, Try.ntmps26
  go_wp2_with (first
    | (go_at_call 79; refine (H1.out _).mono ?_; rintro e w1 ⟨rfl, hb1⟩; obtain ⟨hc1, hf1⟩ := hb1.cells; have hz1 := hb1.size; (repeat (first | rw [World.size_alloc] at hz1 | rw [World.size_drew] at hz1)); have z1_0 : w.heap.size < w1.heap.size := (by omega); have z1_1 : w.heap.size + 1 < w1.heap.size := (by omega))
    | (go_at_call 60; refine (H2.out _).mono ?_; rintro e w2 ⟨rfl, hb2⟩; obtain ⟨hc2, hf2⟩ := hb2.cells; have hz2 := hb2.size; (repeat (first | rw [World.size_alloc] at hz2 | rw [World.size_drew] at hz2)); have z2_0 : w.heap.size < w2.heap.size := (by omega); have z2_1 : w.heap.size + 1 < w2.heap.size := (by omega))
    | (go_at_call 28; refine (rBoxes_any _ _ _ _ HR.out).mono ?_; rintro e w3 ⟨v3, rfl, hb3, hv3⟩; obtain ⟨g, co, rfl, hg1, hg2⟩ := hv3.pos (by omega); have HV := hide hv3; clear hv3; obtain ⟨hc3, hf3⟩ := hb3.cells; have hz3 := hb3.size; (repeat (first | rw [World.size_alloc] at hz3 | rw [World.size_drew] at hz3)); have z3_0 : w.heap.size < w3.heap.size := (by omega); have z3_1 : w.heap.size + 1 < w3.heap.size := (by omega)))
  have hv := HV.out.reads.pair_at HBA.out
  rw [HN'.out] at *
  have HX3 := hide (show Ext w w3 from (by (with_reducible (repeat' (first | exact Ext.refl _ | assumption | refine Ext.drew ?_ | refine Ext.drewN ?_ _ | refine Ext.alloc ?_ _ | refine Ext.setCell ?_ ?_ _ | refine Ext.trans ?_ (by assumption)))); all_goals (first | (simp; done) | (simp; omega))))
  go_loopw [13] (fun iv wr => ∃ k : Nat, k ≤ m ∧ iv = .int .i64 k ∧ cellsE W H s (K : Int) cs k = 0 ∧ Ext w3 wr) (fun iv _ => m - (intOf iv).toNat)
  case atStart => exact ⟨0, Nat.zero_le _, rfl, rfl, Ext.refl _⟩
  case round =>
    obtain ⟨k, hk, rfl, hce, hx⟩ := hrel
    have HCE := hide hce
    have XR := hide hx
    have hzr := hx.size
    have g0 := (hx.cell (p := ⟨g, K * 4, none⟩) hg2).trans hv.1
    have g1 := (hx.cell (p := ⟨g, K * 4 + 1, none⟩) hg2).trans hv.2.1
    have g2 := (hx.cell (p := ⟨g, K * 4 + 2, none⟩) hg2).trans hv.2.2.1
    have g3 := (hx.cell (p := ⟨g, K * 4 + 3, none⟩) hg2).trans hv.2.2.2
    have gz : g < wr.heap.size := Nat.lt_of_lt_of_le hg2 hzr
    clear hce hx
    by_cases hlt : k < m
    · have hkl : k < cs.length := by rw [HM.out]; exact hlt
      obtain ⟨b, off, rfl, hb, hcc⟩ := HC.out (by omega)
      have hxw := HX3.out.trans XR.out
      have hq0 := hcc k hkl
      have hgd : cs.getD k (0, 0) = cs[k] := by simp [List.getD_eq_getElem?_getD, hkl]
      have hini := HIN.out cs[k] (List.getElem_mem hkl)
      obtain ⟨⟨qx, qy⟩, hqe⟩ : ∃ q, cs[k] = q := ⟨_, rfl⟩
      rw [hqe] at hq0 hgd hini
      have HGD := hide hgd
      have HHAS := hide (fun w' => rHas_any X Y BW BH qx qy w' HB0.out.1 HB0.out.2 hini.1 hini.2)
      have d0 := (hxw.cell (p := ⟨b, off + k * 2, none⟩) hb).trans hq0.1
      have d1 := (hxw.cell (p := ⟨b, off + k * 2 + 1, none⟩) hb).trans hq0.2
      have zb : b < wr.heap.size := Nat.lt_of_lt_of_le hb hxw.size
      have HCC := hide (fun k' (h : k' < cs.length) => hcc k' h)
      have HB := hide hb
      have HXW := hide hxw
      have jk : (k : Int) < (m : Int) := by omega
      have END : Hid (∀ e : Int, cellBad W H s (K : Int) cs k = e → e ≠ 0 → cellsE W H s (K : Int) cs m = e) := hide (fun e h1 h2 => by rw [cellsE_at HCE.out (by rw [h1]; exact h2) hlt, h1])
      have HIT : Hid (inId W H s (K : Int) (cs.getD k (0, 0)) = hasB X Y BW BH qx qy) := hide (by rw [HIS.out, hgd])
      clear hkl hcc hq0 hgd hqe hxw hb hini
      cases hhb : hasB X Y BW BH qx qy
      · rw [hhb] at HHAS HIT
        have HE := hide (END.out 10 (by unfold cellBad; rw [if_pos HIT.out]) (by decide))
        clear hhb END
        go_wp2_with fail
        refine seqH_start (S := (fun W => (∀ b o, b < wr.heap.size → W.cell? ⟨b, o, none⟩ = wr.cell? ⟨b, o, none⟩) ∧ Ext wr W)) [(0, true), (1, true), (2, true), (3, true), (4, true), (5, true), (6, true), (7, true), (8, false), (9, true)] (by kernel_rfl) (by kernel_rfl) (by kernel_rfl) (by decide) (fun _ _ d _ _ h => by cases d <;> exact h) (by first | with_reducible exact pr_start _ | exact pr_of (by (with_reducible (repeat' (first | exact Ext.refl _ | assumption | refine Ext.drew ?_ | refine Ext.drewN ?_ _ | refine Ext.alloc ?_ _ | refine Ext.setCell ?_ ?_ _ | refine Ext.trans ?_ (by assumption)))); all_goals (first | (simp; done) | (simp; omega)))) (fun hHeld => ?_)
        iterate 8 (apply SeqH.free; (· (simp only [List.getElem?_toArray, List.getElem?_cons_succ, List.getElem?_cons_zero]; rfl)); (· first | exact Or.inr ⟨by rfl, rfl⟩ | (refine Or.inl ⟨by rfl, ?_⟩; intro w hSw; (try dsimp only at hSw); go_simp; try with_reducible rfl)); try simp only [Act.put, List.setIfInBounds_toArray, List.set_cons_zero, List.set_cons_succ])
        (apply SeqH.step; (· (simp only [List.getElem?_toArray, List.getElem?_cons_succ, List.getElem?_cons_zero]; rfl)); intro K hK; go_simp; refine (HHAS.out _).mono ?_; rintro e w5 ⟨rfl, hb5⟩; go_wp2_with fail; refine hK.out _ _ (pr_of (by (with_reducible (repeat' (first | exact Ext.refl _ | assumption | refine Ext.drew ?_ | refine Ext.drewN ?_ _ | refine Ext.alloc ?_ _ | refine Ext.setCell ?_ ?_ _ | refine Ext.trans ?_ (by assumption)))); all_goals (first | (simp; done) | (simp; omega)))) (fun hHeld => ?_); clear hK K; try simp only [Act.put, List.setIfInBounds_toArray, List.set_cons_zero, List.set_cons_succ])
        iterate 1 (apply SeqH.free; (· (simp only [List.getElem?_toArray, List.getElem?_cons_succ, List.getElem?_cons_zero]; rfl)); (· first | exact Or.inr ⟨by rfl, rfl⟩ | (refine Or.inl ⟨by rfl, ?_⟩; intro w hSw; (try dsimp only at hSw); go_simp; try with_reducible rfl)); try simp only [Act.put, List.setIfInBounds_toArray, List.set_cons_zero, List.set_cons_succ])
        refine SeqH.done ?_
        have hx5 := hHeld.2
        clear hHeld hb5
        go_wp2_with fail
        go_ret
        exact ⟨by rw [HE.out]; rfl, (HX3.out.trans XR.out).trans hx5⟩
      · rw [hhb] at HHAS HIT
        clear hhb
        go_wp2_with fail
        refine seqH_start (S := (fun W => (∀ b o, b < wr.heap.size → W.cell? ⟨b, o, none⟩ = wr.cell? ⟨b, o, none⟩) ∧ Ext wr W)) [(0, true), (1, true), (2, true), (3, true), (4, true), (5, true), (6, true), (7, true), (8, false), (9, true)] (by kernel_rfl) (by kernel_rfl) (by kernel_rfl) (by decide) (fun _ _ d _ _ h => by cases d <;> exact h) (by first | with_reducible exact pr_start _ | exact pr_of (by (with_reducible (repeat' (first | exact Ext.refl _ | assumption | refine Ext.drew ?_ | refine Ext.drewN ?_ _ | refine Ext.alloc ?_ _ | refine Ext.setCell ?_ ?_ _ | refine Ext.trans ?_ (by assumption)))); all_goals (first | (simp; done) | (simp; omega)))) (fun hHeld => ?_)
        iterate 8 (apply SeqH.free; (· (simp only [List.getElem?_toArray, List.getElem?_cons_succ, List.getElem?_cons_zero]; rfl)); (· first | exact Or.inr ⟨by rfl, rfl⟩ | (refine Or.inl ⟨by rfl, ?_⟩; intro w hSw; (try dsimp only at hSw); go_simp; try with_reducible rfl)); try simp only [Act.put, List.setIfInBounds_toArray, List.set_cons_zero, List.set_cons_succ])
        (apply SeqH.step; (· (simp only [List.getElem?_toArray, List.getElem?_cons_succ, List.getElem?_cons_zero]; rfl)); intro K hK; go_simp; refine (HHAS.out _).mono ?_; rintro e w5 ⟨rfl, hb5⟩; go_wp2_with fail; refine hK.out _ _ (pr_of (by (with_reducible (repeat' (first | exact Ext.refl _ | assumption | refine Ext.drew ?_ | refine Ext.drewN ?_ _ | refine Ext.alloc ?_ _ | refine Ext.setCell ?_ ?_ _ | refine Ext.trans ?_ (by assumption)))); all_goals (first | (simp; done) | (simp; omega)))) (fun hHeld => ?_); clear hK K; try simp only [Act.put, List.setIfInBounds_toArray, List.set_cons_zero, List.set_cons_succ])
        iterate 1 (apply SeqH.free; (· (simp only [List.getElem?_toArray, List.getElem?_cons_succ, List.getElem?_cons_zero]; rfl)); (· first | exact Or.inr ⟨by rfl, rfl⟩ | (refine Or.inl ⟨by rfl, ?_⟩; intro w hSw; (try dsimp only at hSw); go_simp; try with_reducible rfl)); try simp only [Act.put, List.setIfInBounds_toArray, List.set_cons_zero, List.set_cons_succ])
        refine SeqH.done ?_
        have hx5 := hHeld.2
        clear hHeld hb5
        have HX5 := hide hx5
        by_cases hk0 : k = 0
        · subst hk0
          have HN := hide (cellsE_next HCE.out (by unfold cellBad; rw [if_neg (by rw [HIT.out]; simp), if_neg (fun h => absurd h.1 (Nat.lt_irrefl 0))]))
          clear END hx5
          go_wp2_with fail
          go_quiet (fail)
          go_wp2_with fail
          go_roundw
          case rel => exact ⟨1, by omega, by go_num, HN.out, XR.out.trans (HX5.out.trans (by (with_reducible (repeat' (first | exact Ext.refl _ | assumption | refine Ext.drew ?_ | refine Ext.drewN ?_ _ | refine Ext.alloc ?_ _ | refine Ext.setCell ?_ ?_ _ | refine Ext.trans ?_ (by assumption)))); all_goals (first | (simp; done) | (simp; omega))))⟩
          case measure => simp [intOf]; omega
        · obtain ⟨k', rfl⟩ : ∃ k', k = k' + 1 := ⟨k - 1, by omega⟩
          have hkl : k' < cs.length := by rw [HM.out]; omega
          have hq1 := HCC.out k' hkl
          have hgd1 : cs.getD k' (0, 0) = cs[k'] := by simp [List.getD_eq_getElem?_getD, hkl]
          obtain ⟨⟨px, py⟩, hpe⟩ : ∃ q, cs[k'] = q := ⟨_, rfl⟩
          rw [hpe] at hq1 hgd1
          have hxw5 := HXW.out.trans hx5
          have e0 := (hxw5.cell (p := ⟨b, off + k' * 2, none⟩) HB.out).trans hq1.1
          have e1 := (hxw5.cell (p := ⟨b, off + k' * 2 + 1, none⟩) HB.out).trans hq1.2
          have f0 := (hx5.cell (p := ⟨b, off + (k' + 1) * 2, none⟩) zb).trans d0
          have f1 := (hx5.cell (p := ⟨b, off + (k' + 1) * 2 + 1, none⟩) zb).trans d1
          have zb5 : b < w5.heap.size := Nat.lt_of_lt_of_le HB.out hxw5.size
          have HBD : Hid (cellBad W H s (K : Int) cs (k' + 1) = if riseB (px, py) (qx, qy) = false then 11 else 0) := hide (by
            unfold cellBad
            rw [if_neg (by rw [HIT.out]; simp), HGD.out, Nat.add_sub_cancel, hgd1]
            by_cases h : riseB (px, py) (qx, qy) = false
            · rw [if_pos ⟨Nat.succ_pos _, h⟩, if_pos h]
            · rw [if_neg (fun k => h k.2), if_neg h])
          have jk' : (k' : Int) < (m : Int) := by omega
          have s1 : IntKind.i64.wrap ((k' : Int) + 1 - 1) = (k' : Int) := by rw [Int.add_sub_cancel]; exact IntWalk.i64_in _ (by omega)
          have s3 : IntKind.i64.wrap (k' : Int) = (k' : Int) := IntWalk.i64_in _ (by omega)
          have s2 : decide ((0 : Int) < (k' : Int) + 1) = true := by simp <;> omega
          clear hq1 hgd1 hpe hkl hxw5 hk0 d0 d1 zb g0 g1 g2 g3 gz
          have cmp : (qy < py) ∨ (¬ qy < py ∧ ¬ qy = py) ∨ (¬ qy < py ∧ qy = py ∧ qx ≤ px) ∨ (¬ qy < py ∧ qy = py ∧ ¬ qx ≤ px) := by omega
          rcases cmp with h | ⟨h, h'⟩ | ⟨h, rfl, h''⟩ | ⟨h, rfl, h''⟩
          · have v1 : decide (qy < py) = true := by simpa using h
            have HE := hide (END.out 11 (by rw [HBD.out, if_pos (by simp only [riseB, Bool.or_eq_false_iff, Bool.and_eq_false_iff, decide_eq_false_iff_not]; omega)]) (by decide))
            clear END HBD h hx5
            go_wp2_with fail
            go_quiet (fail)
            go_wp2_with fail
            go_ret
            exact ⟨by rw [HE.out]; rfl, (HX3.out.trans XR.out).trans (HX5.out.trans (by (with_reducible (repeat' (first | exact Ext.refl _ | assumption | refine Ext.drew ?_ | refine Ext.drewN ?_ _ | refine Ext.alloc ?_ _ | refine Ext.setCell ?_ ?_ _ | refine Ext.trans ?_ (by assumption)))); all_goals (first | (simp; done) | (simp; omega))))⟩
          · have v1 : decide (qy < py) = false := by simpa using h
            have v2 : (qy == py) = false := by simpa using h'
            have HN := hide (cellsE_next HCE.out (by rw [HBD.out, if_neg (by simp only [riseB, Bool.or_eq_false_iff, Bool.and_eq_false_iff, decide_eq_false_iff_not]; omega)]))
            clear END HBD h h' hx5
            go_wp2_with fail
            go_quiet (fail)
            go_wp2_with fail
            go_roundw
            case rel => exact ⟨k' + 1 + 1, by omega, by go_num, HN.out, XR.out.trans (HX5.out.trans (by (with_reducible (repeat' (first | exact Ext.refl _ | assumption | refine Ext.drew ?_ | refine Ext.drewN ?_ _ | refine Ext.alloc ?_ _ | refine Ext.setCell ?_ ?_ _ | refine Ext.trans ?_ (by assumption)))); all_goals (first | (simp; done) | (simp; omega))))⟩
            case measure => simp [intOf]; omega
          · have v3 : decide (qx ≤ px) = true := by simpa using h''
            have HE := hide (END.out 11 (by rw [HBD.out, if_pos (by simp only [riseB, Bool.or_eq_false_iff, Bool.and_eq_false_iff, decide_eq_false_iff_not]; omega)]) (by decide))
            clear END HBD h h'' hx5
            go_wp2_with fail
            go_quiet (fail)
            go_wp2_with fail
            go_ret
            exact ⟨by rw [HE.out]; rfl, (HX3.out.trans XR.out).trans (HX5.out.trans (by (with_reducible (repeat' (first | exact Ext.refl _ | assumption | refine Ext.drew ?_ | refine Ext.drewN ?_ _ | refine Ext.alloc ?_ _ | refine Ext.setCell ?_ ?_ _ | refine Ext.trans ?_ (by assumption)))); all_goals (first | (simp; done) | (simp; omega))))⟩
          · have v3 : decide (qx ≤ px) = false := by simpa using h''
            have hpx : px < qx := by omega
            have HN := hide (cellsE_next HCE.out (by rw [HBD.out, if_neg (by simp [riseB, hpx])]))
            clear hpx
            clear END HBD h h'' hx5
            go_wp2_with fail
            go_quiet (fail)
            go_wp2_with fail
            go_roundw
            case rel => exact ⟨k' + 1 + 1, by omega, by go_num, HN.out, XR.out.trans (HX5.out.trans (by (with_reducible (repeat' (first | exact Ext.refl _ | assumption | refine Ext.drew ?_ | refine Ext.drewN ?_ _ | refine Ext.alloc ?_ _ | refine Ext.setCell ?_ ?_ _ | refine Ext.trans ?_ (by assumption)))); all_goals (first | (simp; done) | (simp; omega))))⟩
            case measure => simp [intOf]; omega
    · obtain rfl : k = m := by omega
      have HE := hide HCE.out
      have hxx := HX3.out.trans XR.out
      go_wp2_with fail
      go_ret
      exact ⟨by rw [HE.out]; rfl, hxx⟩

theorem r13May_any {w : World} (W H : Int) (a : Option Addr) (n c : Nat) (PW PH s id : Int) (ca : Option Addr) (cs : List Cell) (cc : Nat) (hc : RowC w ca cs) (hl : cs.length ≤ 1000000) (hi : ∀ p ∈ cs, InI p.1 ∧ InI p.2) :
    Calls Try.prog 26 #[.agg #[.int .i64 W, .int .i64 H, .slice a n c], .agg #[.int .i64 PW, .int .i64 PH], .int .i64 s, .int .i64 id, .slice ca cs.length cc] w fun e w' => e = .returned (.int .i64 (innerE W H n PW PH s id cs)) ∧ Ext w w' := by
  unfold innerE
  by_cases h1 : checkE W H n = 0
  · rw [if_pos h1]
    by_cases h2 : PW = W ∧ PH = H
    · obtain ⟨rfl, rfl⟩ := h2
      rw [if_pos ⟨rfl, rfl⟩]
      cases h3 : rightB PW PH s
      · rw [if_neg (by simp)]
        exact r13May_side PW PH a n c s id ca _ cc h1 h3
      · rw [if_pos rfl]
        cases h4 : bad PW PH s id
        · rw [if_neg (by simp)]
          obtain ⟨i0, i1⟩ := bad_false_iff.1 h4
          obtain ⟨K, rfl⟩ : ∃ K : Nat, id = (K : Int) := ⟨id.toNat, by omega⟩
          exact r13May_cells PW PH a n c s K ca cs cc h1 h3 i1 hc hl hi
        · rw [if_pos rfl]
          exact r13May_id PW PH a n c s id ca _ cc h1 h3 (fun h => by rw [bad_false_iff.2 h] at h4; cases h4)
    · rw [if_neg h2]
      exact r13May_size W H a n c PW PH s id ca _ cc h1 h2
  · rw [if_neg h1]
    exact r13May_field W H a n c PW PH s id ca _ cc h1
end Go.Proofs.Ytifbmapianddcaa

/- Walk of the reference's Row, of chapter 13. -/
namespace Go.Proofs.Ytifbmapianddcaa
open Go.RowKit

set_option maxRecDepth 100000 in
set_option maxHeartbeats 2000000 in
theorem r13Row_any {w : World} {W H : Int} {a : Option Addr} {l : List Int} {bx byy bw bh : Int} (L : LandP W H l bx byy bw bh) (c : Nat) (p : Cell) (he : lookE W H l.length bx byy bw bh p.1 p.2 = 0) {ca : Option Addr} {cs : List Cell} (cc : Nat) (hcs : ∀ q, q ∈ cs → hasB bx byy bw bh q.1 q.2 = true) (hl : cs.length ≤ 1000000) (hr : Row16 w a l) (hu : U16s l) (hc : RowC w ca cs) :
    Calls Try.prog 34 #[.agg #[.int .i64 W, .int .i64 H, .slice a l.length c], .agg #[.int .i64 bx, .int .i64 byy, .int .i64 bw, .int .i64 bh], .agg #[.int .i64 p.1, .int .i64 p.2], .slice ca cs.length cc] w fun e w' => ∃ v, e = .returned v ∧ Ext w w' ∧ Own u64E w' w.heap.size 38 v (rowD L cs p) := by
  obtain ⟨x, y⟩ := p
  have HF := hide (fun (w' : World) (hx : Ext w w') => rFar_any (w := w') (c := c) he (hr.ext hx) hu (D := farD L (x, y)) (farD_is L (x, y)))
  have HLP := hide L
  have HCS := hide hcs
  have HC := hide hc
  have wh := L.wh
  obtain ⟨n, hnn⟩ : ∃ z, l.length = z := ⟨_, rfl⟩
  obtain ⟨m, hmm⟩ : ∃ z, cs.length = z := ⟨_, rfl⟩
  have HN := hide hnn
  have HM := hide hmm
  obtain ⟨D, hD⟩ : ∃ D, farD L (x, y) = D := ⟨_, rfl⟩
  have HD := hide hD
  have hn1 : 0 < n := by have := L.idx_lt (L.in_ (lookE_ok.1 he).2.2.2); omega
  rw [hD, hnn] at HF
  rw [hnn] at wh ⊢
  rw [hmm] at hl ⊢
  clear he hr hu hc hcs hnn hmm hD
  go_enter Try.func34, Try.ntmps34
  go_wp2_with fail
  refine (HF.out _ (by (with_reducible (repeat' (first | exact Ext.refl _ | assumption | refine Ext.drew ?_ | refine Ext.drewN ?_ _ | refine Ext.alloc ?_ _ | refine Ext.setCell ?_ ?_ _ | refine Ext.trans ?_ (by assumption)))); all_goals (first | (simp; done) | (simp; omega)))).mono ?_
  rintro e w1 ⟨v1, rfl, hb1, ho1⟩
  obtain ⟨g, gc, rfl, hg1, hg2⟩ := ho1.pos (by rw [farL_len]; exact hn1)
  rw [farL_len] at ho1 ⊢
  have B0 : Hid (Blk w1 (w.heap.size) 26 #[.int .i64 W, .int .i64 H, .slice a n c]) := hide (by refine Blk.ext ?_ hb1; (repeat' (first | exact Blk.new_ (by simp) | refine Blk.drew ?_ | refine Blk.over ?_)))
  have hx1 : Ext w w1 := (by (with_reducible (repeat' (first | exact Ext.refl _ | assumption | refine Ext.drew ?_ | refine Ext.drewN ?_ _ | refine Ext.alloc ?_ _ | refine Ext.setCell ?_ ?_ _ | refine Ext.trans ?_ (by assumption)))); all_goals (first | (simp; done) | (simp; omega)))
  have FA := hide (show FarAt w1 (w.heap.size + 3) g gc D n from ho1.lower (base' := w.heap.size + 3) (by simp))
  have HX1 := hide hx1
  have hz1 := hx1.size
  clear hb1 ho1 hx1
  go_wp2_with fail
  obtain ⟨w2, hw2⟩ : ∃ w2, w2 = w1.alloc (.cells #[] 38) := ⟨_, rfl⟩
  have O2 := hide (show Own u64E w2 w1.heap.size 38 (.slice (some ⟨w1.heap.size, 0, none⟩) 0 0) [] by rw [hw2]; exact Own.lit0 u64E w1 _ _ _ rfl (Nat.le_refl _))
  have hx2 : Ext w1 w2 := by rw [hw2]; exact (Ext.refl _).alloc _
  have HX2 := hide hx2
  rw [← hw2]
  clear hw2 hx2
  go_wp2_with fail
  go_loopw [10, 11] (fun ov iv wr => ∃ k : Nat, k ≤ m ∧ iv = .int .i64 k ∧ Own u64E wr w1.heap.size 38 ov ((cs.take k).map (fun q => D (idxN W q))) ∧ Ext w1 wr) (fun _ iv _ => m - (intOf iv).toNat)
  case atStart => exact ⟨0, Nat.zero_le _, rfl, O2.out, HX2.out⟩
  case round =>
    obtain ⟨k, hk, rfl, ho, hxx⟩ := hrel
    have HO := hide ho
    have HXX := hide hxx
    have hzr := hxx.size
    have B0r := hide (Blk.ext B0.out hxx)
    by_cases hlt : k < m
    · obtain ⟨q, hq⟩ : ∃ q, cs[k]? = some q := ⟨_, List.getElem?_eq_getElem (by rw [HM.out]; exact hlt)⟩
      obtain ⟨b, off, rfl, hb, hcc⟩ := HC.out (by rw [HM.out]; omega)
      obtain ⟨hkl, hql⟩ := List.getElem?_eq_some_iff.1 hq
      have h1 := hcc k hkl
      rw [hql] at h1
      have hin := HLP.out.in_ (HCS.out q (List.mem_of_getElem? hq))
      obtain ⟨qx, qy⟩ := q
      have hxw := HX1.out.trans hxx
      have d0 := (hxw.cell (p := ⟨b, off + k * 2, none⟩) hb).trans h1.1
      have d1 := (hxw.cell (p := ⟨b, off + k * 2 + 1, none⟩) hb).trans h1.2
      have hbw : b < wr.heap.size := Nat.lt_of_lt_of_le hb hxw.size
      have hsn := HLP.out.idx_lt hin
      rw [HN.out] at hsn
      have hsi := idx_int (W := W) hin.1 (by omega) hin.2.2.1
      have m0 := mul_bd (a := qy) (b := W) (A := 256) (B := 256) (by omega) (by omega) (by omega) (by omega)
      have k1 : IntKind.i64.wrap (qy * W) = qy * W := IntWalk.i64_in _ (by omega)
      have k2 : IntKind.i64.wrap (qy * W + qx) = ((idxN W (qx, qy) : Nat) : Int) := by rw [hsi]; exact IntWalk.i64_in _ (by omega)
      have HT := hide (take_map cs (fun q => D (idxN W q)) hq)
      have hs0 := ((FA.out.ext hxx).cell hsn).1
      have gz := ((FA.out.ext hxx).lt).2
      have HPL : Hid (((cs.take k).map (fun q => D (idxN W q))).length = k) := hide (by rw [List.length_map, List.length_take, HM.out]; omega)
      have HMN : Hid (min k cs.length = k) := hide (by rw [HM.out]; omega)
      obtain ⟨ou, oc, hov⟩ := HO.out.slice
      subst hov
      rw [HPL.out] at HO ⊢
      obtain ⟨s, hs⟩ : ∃ s, idxN W (qx, qy) = s := ⟨_, rfl⟩
      have HS := hide hs
      rw [hs] at hsn k2 hs0
      have jk : (k : Int) < (m : Int) := by omega
      have js : (s : Int) < (n : Int) := by omega
      have u0 := B0r.out.at 0 rfl; have u1 := B0r.out.at 1 rfl; have u2 := B0r.out.at 2 rfl; have uz := B0r.out.lt
      clear ho hxx hq hcc hkl hql h1 hin hsi m0 hxw hs
      go_wp2_with fail
      go_region_law (refine step_app_drew u64E T_u64s rfl _ _ rfl w1.heap.size _ _ _ rfl HO.out (D s) _ _ rfl _ rfl rfl (by rw [HPL.out]; omega) (by rw [HPL.out]; omega) (by omega) ?_; intro g9 c9 w9 o9 t9 l9; have O9 := hide o9; have X9 := hide (((Touch.of_ext (S := fun _ => False) HXX.out).after t9 (fun k hk h => by have := (own_lt HO.out (k := k) h).1; omega)).ext); clear o9 t9 l9)
      all_goals
        try go_wp2_with fail
        go_roundw
        case rel => exact ⟨k + 1, hlt, by go_num, by have h := O9.out; rw [HPL.out] at h; rw [HT.out]; try rw [HMN.out]; show Own _ _ _ _ _ (_ ++ [D (idxN W (qx, qy))]); rw [HS.out]; exact h, X9.out⟩
        case measure => simp [intOf]; omega
    · obtain rfl : k = m := by omega
      go_wp2_with fail
      go_ret
      exact ⟨_, rfl, HX1.out.trans HXX.out, by have h := HO.out.lower HX1.out.size; rw [List.take_of_length_le (by rw [HM.out]; exact Nat.le_refl _), ← HD.out] at h; exact h⟩
end Go.Proofs.Ytifbmapianddcaa

/- The law's own small function of chapter 13. -/
namespace Go.Proofs.Ytifbmapianddcaa
open Go.RowKit

theorem small13_any (W H : Int) (a : Option Addr) (n c : Nat) (id : Int) (ca : Option Addr) (m cc : Nat) (tx ty : Int) (w : World) :
    Calls Try.prog 23 #[.agg #[.int .i64 W, .int .i64 H, .slice a n c], .agg #[.int .i64 id, .slice ca m cc, .int .i64 tx, .int .i64 ty]] w fun e w' => e = .returned (.bool (decide (n ≤ 260) && decide (m ≤ 60))) ∧ Ext w w' := by
  by_cases h1 : n ≤ 260
  · have d1 : decide ((n : Int) ≤ 260) = true := by simp; omega
    have e1 : decide (n ≤ 260) = true := by simpa using h1
    by_cases h2 : m ≤ 60
    · have d2 : decide ((m : Int) ≤ 60) = true := by simp; omega
      have e2 : decide (m ≤ 60) = true := by simpa using h2
      rw [e1, e2]
      go_enter Try.func23, Try.ntmps23
      go_wp2_with fail
      go_ret
      exact ⟨rfl, (by (with_reducible (repeat' (first | exact Ext.refl _ | assumption | refine Ext.drew ?_ | refine Ext.drewN ?_ _ | refine Ext.alloc ?_ _ | refine Ext.setCell ?_ ?_ _ | refine Ext.trans ?_ (by assumption)))); all_goals (first | (simp; done) | (simp; omega)))⟩
    · have d2 : decide ((m : Int) ≤ 60) = false := by simp; omega
      have e2 : decide (m ≤ 60) = false := by simpa using h2
      rw [e1, e2]
      go_enter Try.func23, Try.ntmps23
      go_wp2_with fail
      go_ret
      exact ⟨rfl, (by (with_reducible (repeat' (first | exact Ext.refl _ | assumption | refine Ext.drew ?_ | refine Ext.drewN ?_ _ | refine Ext.alloc ?_ _ | refine Ext.setCell ?_ ?_ _ | refine Ext.trans ?_ (by assumption)))); all_goals (first | (simp; done) | (simp; omega)))⟩
  · have d1 : decide ((n : Int) ≤ 260) = false := by simp; omega
    have e1 : decide (n ≤ 260) = false := by simpa using h1
    rw [e1]
    clear h1
    go_enter Try.func23, Try.ntmps23
    go_wp2_with fail
    go_ret
    exact ⟨rfl, (by (with_reducible (repeat' (first | exact Ext.refl _ | assumption | refine Ext.drew ?_ | refine Ext.drewN ?_ _ | refine Ext.alloc ?_ _ | refine Ext.setCell ?_ ?_ _ | refine Ext.trans ?_ (by assumption)))); all_goals (first | (simp; done) | (simp; omega)))⟩
end Go.Proofs.Ytifbmapianddcaa

/- Walks of layer 13: To and Back. -/
namespace Go.Proofs.Ytifbmapianddcaa
open Go.RowKit

/-- What To and Back are refused for. -/
def toE (W H : Int) (n : Nat) (PW PH s id : Int) (cs : List Cell) (p : Cell) : Int := if innerE W H n PW PH s id cs = 0 then lookE W H n (boxX W s id) (boxY W s id) (boxW W s id) (boxH W H s id) p.1 p.2 else innerE W H n PW PH s id cs

set_option maxRecDepth 100000 in
theorem iTo_bad {w : World} (W H : Int) (a : Option Addr) (n c : Nat) (PW PH s id : Int) (ca : Option Addr) (cs : List Cell) (cc : Nat) (ra : Option Addr) (rn rc : Nat) (p : Cell) (hc : RowC w ca cs) (hl : cs.length ≤ 1000000) (hi : ∀ p ∈ cs, InI p.1 ∧ InI p.2) (he : toE W H n PW PH s id cs p ≠ 0) :
    Calls Try.prog 31 #[.agg #[.int .i64 W, .int .i64 H, .slice a n c], .agg #[.int .i64 PW, .int .i64 PH, .int .i64 s], .int .i64 id, .agg #[.slice ca cs.length cc, .slice ra rn rc], .agg #[.int .i64 p.1, .int .i64 p.2]] w fun e w' => e = .returned (.tuple #[.slice none 0 0, .int .i64 (toE W H n PW PH s id cs p)]) ∧ Ext w w' := by
  have HL := hide (fun (w' : World) (hx : Ext w w') => iLook_any (w := w') W H a n c PW PH s id ca cs cc (hc.ext hx) hl hi)
  obtain ⟨x, y⟩ := p
  by_cases h0 : innerE W H n PW PH s id cs = 0
  · have h1 : toE W H n PW PH s id cs (x, y) = lookE W H n (boxX W s id) (boxY W s id) (boxW W s id) (boxH W H s id) x y := by unfold toE; rw [if_pos h0]
    rw [h1] at he ⊢
    have HF := hide (fun (w' : World) => iFar_bad (w := w') W H a n c (boxX W s id) (boxY W s id) (boxW W s id) (boxH W H s id) x y ca cs.length cc he)
    rw [h0] at HL
    generalize lookE W H n (boxX W s id) (boxY W s id) (boxW W s id) (boxH W H s id) x y = er at *
    obtain ⟨m, hm⟩ : ∃ z, cs.length = z := ⟨_, rfl⟩
    rw [hm] at HL HF ⊢
    clear hc hl hi h0 h1 he hm
    simp only
    go_enter Try.func31, Try.ntmps31
    go_wp2_with fail
    refine (HL.out _ (by (with_reducible (repeat' (first | exact Ext.refl _ | assumption | refine Ext.drew ?_ | refine Ext.drewN ?_ _ | refine Ext.alloc ?_ _ | refine Ext.setCell ?_ ?_ _ | refine Ext.trans ?_ (by assumption)))); all_goals (first | (simp; done) | (simp; omega)))).mono ?_
    rintro e w1 ⟨⟨v, rfl, hv⟩, hb1⟩
    obtain ⟨hc1, hf1⟩ := hb1.cells; have hz1 := hb1.size; (repeat (first | rw [World.size_alloc] at hz1 | rw [World.size_drew] at hz1)); have z1_0 : w.heap.size < w1.heap.size := (by omega); have z1_1 : w.heap.size + 1 < w1.heap.size := (by omega); have z1_2 : w.heap.size + 2 < w1.heap.size := (by omega); have z1_3 : w.heap.size + 3 < w1.heap.size := (by omega)
    rcases hv with ⟨h0, _⟩ | ⟨_, rfl⟩
    · exact absurd rfl h0
    · go_wp2_with fail
      refine (HF.out _).mono ?_
      rintro e w2 ⟨rfl, hb2⟩
      go_wp2_with fail
      go_ret2
      exact ⟨rfl, (by (with_reducible (repeat' (first | exact Ext.refl _ | assumption | refine Ext.drew ?_ | refine Ext.drewN ?_ _ | refine Ext.alloc ?_ _ | refine Ext.setCell ?_ ?_ _ | refine Ext.trans ?_ (by assumption)))); all_goals (first | (simp; done) | (simp; omega)))⟩
  · have h1 : toE W H n PW PH s id cs (x, y) = innerE W H n PW PH s id cs := by unfold toE; rw [if_neg h0]
    rw [h1] at he ⊢
    generalize innerE W H n PW PH s id cs = er at *
    have hb : (er != 0) = true := by simpa using he
    have HER := hide he
    obtain ⟨m, hm⟩ : ∃ z, cs.length = z := ⟨_, rfl⟩
    rw [hm] at HL ⊢
    clear hc hl hi he hm h0 h1
    simp only
    go_enter Try.func31, Try.ntmps31
    go_wp2_with fail
    refine (HL.out _ (by (with_reducible (repeat' (first | exact Ext.refl _ | assumption | refine Ext.drew ?_ | refine Ext.drewN ?_ _ | refine Ext.alloc ?_ _ | refine Ext.setCell ?_ ?_ _ | refine Ext.trans ?_ (by assumption)))); all_goals (first | (simp; done) | (simp; omega)))).mono ?_
    rintro e w1 ⟨⟨v, rfl, hv⟩, hb1⟩
    rcases hv with ⟨_, x1, x2, a3, n3, c3, x4, x5, x6, x7, rfl⟩ | ⟨h0, _⟩
    · go_wp2_with fail
      go_ret2
      exact ⟨rfl, (by (with_reducible (repeat' (first | exact Ext.refl _ | assumption | refine Ext.drew ?_ | refine Ext.drewN ?_ _ | refine Ext.alloc ?_ _ | refine Ext.setCell ?_ ?_ _ | refine Ext.trans ?_ (by assumption)))); all_goals (first | (simp; done) | (simp; omega)))⟩
    · exact absurd h0 HER.out

theorem toE_ok {W H : Int} {n : Nat} {PW PH s id : Int} {cs : List Cell} {p : Cell} (h : toE W H n PW PH s id cs p = 0) : innerE W H n PW PH s id cs = 0 ∧ lookE W H n (boxX W s id) (boxY W s id) (boxW W s id) (boxH W H s id) p.1 p.2 = 0 := by
  unfold toE at h
  split at h
  · next h1 => exact ⟨h1, h⟩
  · next h1 => exact absurd h h1

set_option maxRecDepth 100000 in
theorem iTo_ok {w : World} {W H : Int} {a : Option Addr} {l : List Int} (c : Nat) {PW PH s id : Int} {ca : Option Addr} {cs : List Cell} (cc : Nat) (ra : Option Addr) (rn rc : Nat) {p : Cell} (hr : Row16 w a l) (hc : RowC w ca cs) (hl : cs.length ≤ 1000000) (hi : ∀ p ∈ cs, InI p.1 ∧ InI p.2) (he : toE W H l.length PW PH s id cs p = 0) (L : boxL W H s id l) :
    Calls Try.prog 31 #[.agg #[.int .i64 W, .int .i64 H, .slice a l.length c], .agg #[.int .i64 PW, .int .i64 PH, .int .i64 s], .int .i64 id, .agg #[.slice ca cs.length cc, .slice ra rn rc], .agg #[.int .i64 p.1, .int .i64 p.2]] w fun e w' => ∃ sv : Option Addr × Nat × Nat, e = .returned (.tuple #[.slice sv.1 sv.2.1 sv.2.2, .int .i64 0]) ∧ Ext w w' ∧ Own u64E w' w.heap.size 38 (.slice sv.1 sv.2.1 sv.2.2) (rowD L cs p) := by
  obtain ⟨h0, h1⟩ := toE_ok he
  obtain ⟨e1, e2, e3, e4, e5, e6⟩ := innerE_ok.1 h0
  have hok := cells_ok e4 e5 e6
  have HL := hide (fun (w' : World) (hx : Ext w w') => iLook_any (w := w') W H a l.length c PW PH s id ca cs cc (hc.ext hx) hl hi)
  rw [h0] at HL
  have HF := hide (fun (w' : World) (hx : Ext w w') => iFar_ok (w := w') L c p (lookE_ok.1 h1).2.2.2 cc hok hl (hr.ext hx) (hc.ext hx))
  obtain ⟨x, y⟩ := p
  obtain ⟨n, hn⟩ : ∃ z, l.length = z := ⟨_, rfl⟩
  obtain ⟨m, hm⟩ : ∃ z, cs.length = z := ⟨_, rfl⟩
  rw [hn, hm] at HL HF ⊢
  clear hc hi he hr hok hn hm e1 e2 e3 e4 e5 e6 h0 h1 hl
  simp only at HF ⊢
  go_enter Try.func31, Try.ntmps31
  go_wp2_with fail
  refine (HL.out _ (by (with_reducible (repeat' (first | exact Ext.refl _ | assumption | refine Ext.drew ?_ | refine Ext.drewN ?_ _ | refine Ext.alloc ?_ _ | refine Ext.setCell ?_ ?_ _ | refine Ext.trans ?_ (by assumption)))); all_goals (first | (simp; done) | (simp; omega)))).mono ?_
  rintro e w1 ⟨⟨v, rfl, hv⟩, hb1⟩
  obtain ⟨hc1, hf1⟩ := hb1.cells; have hz1 := hb1.size; (repeat (first | rw [World.size_alloc] at hz1 | rw [World.size_drew] at hz1)); have z1_0 : w.heap.size < w1.heap.size := (by omega); have z1_1 : w.heap.size + 1 < w1.heap.size := (by omega); have z1_2 : w.heap.size + 2 < w1.heap.size := (by omega); have z1_3 : w.heap.size + 3 < w1.heap.size := (by omega)
  rcases hv with ⟨h0, _⟩ | ⟨_, rfl⟩
  · exact absurd rfl h0
  · go_wp2_with fail
    refine (HF.out _ (by (with_reducible (repeat' (first | exact Ext.refl _ | assumption | refine Ext.drew ?_ | refine Ext.drewN ?_ _ | refine Ext.alloc ?_ _ | refine Ext.setCell ?_ ?_ _ | refine Ext.trans ?_ (by assumption)))); all_goals (first | (simp; done) | (simp; omega)))).mono ?_
    rintro e w2 ⟨sv, rfl, hb2, ho2⟩
    have hx2 : Ext w w2 := (by (with_reducible (repeat' (first | exact Ext.refl _ | assumption | refine Ext.drew ?_ | refine Ext.drewN ?_ _ | refine Ext.alloc ?_ _ | refine Ext.setCell ?_ ?_ _ | refine Ext.trans ?_ (by assumption)))); all_goals (first | (simp; done) | (simp; omega)))
    have hz1 : w.heap.size ≤ w1.heap.size := by omega
    have O2 := hide (ho2.lower (base' := w.heap.size) (by simp; omega))
    clear ho2 hb2
    go_wp2_with fail
    go_ret2
    exact ⟨sv, rfl, hx2, O2.out⟩
end Go.Proofs.Ytifbmapianddcaa

/- Walk of Back, of layer 13. -/
namespace Go.Proofs.Ytifbmapianddcaa
open Go.RowKit

theorem u64_head {t : Int} {r : List Int} {w : World} {base g n c : Nat} (h : Own u64E w base 38 (.slice (some ⟨g, 0, none⟩) n c) (t :: r)) : w.cell? ⟨g, 0, none⟩ = some (.int .u64 t) := by
  have h1 := (Reads.cells h.reads).2.2 0 t rfl 0 (.int .u64 t) rfl
  simpa using h1

set_option maxRecDepth 100000 in
theorem iBack1_any {w : World} {W H : Int} {a : Option Addr} {l : List Int} {bx byy bw bh : Int} (L : LandP W H l bx byy bw bh) (c : Nat) {pb tb : Nat} (q p : Cell) (hq : hasB bx byy bw bh q.1 q.2 = true) (hp : hasB bx byy bw bh p.1 p.2 = true) (hr : Row16 w a l)
    (hP : PlaceAt w pb W H a l.length c bx byy bw bh) (h0 : w.cell? ⟨tb, 0, none⟩ = some (.int .i64 p.1)) (h1 : w.cell? ⟨tb, 1, none⟩ = some (.int .i64 p.2)) :
    Calls Try.prog 81 (#[.agg #[.int .i64 q.1, .int .i64 q.2]] ++ #[.pointer (some ⟨pb, 0, none⟩), .pointer (some ⟨tb, 0, none⟩)]) w fun e w' => e = .returned (.int .u64 (farD L q (idxN W p))) ∧ Ext w w' := by
  have HF := hide (fun (w' : World) (b : Nat) (hx : Ext w w') (hc : RowC w' (some ⟨b, 0, none⟩) [p]) => iFar_ok (w := w') L c q hq (cs := [p]) 1 (fun z hz => by rw [List.mem_singleton.1 hz]; exact hp) (by simp) (hr.ext hx) hc)
  have b0 : w.cell? ⟨pb, 0, none⟩ = some (.int .i64 W) := Blk.at hP 0 rfl
  have b1 : w.cell? ⟨pb, 1, none⟩ = some (.int .i64 H) := Blk.at hP 1 rfl
  have b2 : w.cell? ⟨pb, 2, none⟩ = some (.slice a l.length c) := Blk.at hP 2 rfl
  have b3 : w.cell? ⟨pb, 3, none⟩ = some (.int .i64 bx) := Blk.at hP 3 rfl
  have b4 : w.cell? ⟨pb, 4, none⟩ = some (.int .i64 byy) := Blk.at hP 4 rfl
  have b5 : w.cell? ⟨pb, 5, none⟩ = some (.int .i64 bw) := Blk.at hP 5 rfl
  have b6 : w.cell? ⟨pb, 6, none⟩ = some (.int .i64 bh) := Blk.at hP 6 rfl
  have zp : pb < w.heap.size := Blk.lt hP
  have zq := World.block_lt_of_cell? w _ h0
  simp only at zq
  have hrow : rowD L [p] q = [farD L q (idxN W p)] := rfl
  rw [hrow] at HF
  obtain ⟨n, hnn⟩ : ∃ z, l.length = z := ⟨_, rfl⟩
  rw [hnn] at HF b2
  obtain ⟨x, y⟩ := q
  obtain ⟨px, py⟩ := p
  generalize farD L (x, y) (idxN W (px, py)) = d at *
  clear hq hp hr hP hnn hrow
  simp only [List.append_toArray, List.length_singleton] at *
  go_enter Try.func81, Try.ntmps81
  go_wp2_with fail
  refine (HF.out _ (w.heap.size + 1) (by (with_reducible (repeat' (first | exact Ext.refl _ | assumption | refine Ext.drew ?_ | refine Ext.drewN ?_ _ | refine Ext.alloc ?_ _ | refine Ext.setCell ?_ ?_ _ | refine Ext.trans ?_ (by assumption)))); all_goals (first | (simp; done) | (simp; omega))) (fun _ => ⟨w.heap.size + 1, 0, rfl, by simp, fun k hk => by
    obtain rfl : k = 0 := by simpa using hk
    exact ⟨by simp [go_sem], by simp [go_sem]⟩⟩)).mono ?_
  rintro e w1 ⟨sv, rfl, hb1, ho1⟩
  have hx1 : Ext w w1 := (by (with_reducible (repeat' (first | exact Ext.refl _ | assumption | refine Ext.drew ?_ | refine Ext.drewN ?_ _ | refine Ext.alloc ?_ _ | refine Ext.setCell ?_ ?_ _ | refine Ext.trans ?_ (by assumption)))); all_goals (first | (simp; done) | (simp; omega)))
  obtain ⟨g, gc, hg⟩ := own_u64 ho1 (by simp)
  obtain ⟨s1, s2, s3⟩ := sv
  simp only at hg ho1 ⊢
  injection hg with g1 g2 g3
  subst g1 g2 g3
  have hc := u64_head ho1
  have zg := (own_lt ho1 (k := g) rfl).2
  clear ho1 hb1
  simp only [List.length_singleton]
  go_wp2_with fail
  go_ret
  exact ⟨rfl, hx1⟩

set_option maxRecDepth 100000 in
theorem iBack_bad {w : World} {W H : Int} (a : Option Addr) {l : List Int} (c : Nat) (PW PH s id : Int) (ca : Option Addr) (cs : List Cell) (cc : Nat) (ra : Option Addr) (rn rc : Nat) (p : Cell) (hc : RowC w ca cs) (hl : cs.length ≤ 1000000) (hi : ∀ p ∈ cs, InI p.1 ∧ InI p.2) (he : toE W H l.length PW PH s id cs p ≠ 0) :
    Calls Try.prog 32 #[.agg #[.int .i64 W, .int .i64 H, .slice a l.length c], .agg #[.int .i64 PW, .int .i64 PH, .int .i64 s], .int .i64 id, .agg #[.slice ca cs.length cc, .slice ra rn rc], .agg #[.int .i64 p.1, .int .i64 p.2]] w fun e w' => e = .returned (.tuple #[.slice none 0 0, .int .i64 (toE W H l.length PW PH s id cs p)]) ∧ Ext w w' := by
  have HL := hide (fun (w' : World) (hx : Ext w w') => iLook_any (w := w') W H a l.length c PW PH s id ca cs cc (hc.ext hx) hl hi)
  obtain ⟨x, y⟩ := p
  obtain ⟨n, hn⟩ : ∃ z, l.length = z := ⟨_, rfl⟩
  rw [hn] at HL he ⊢
  by_cases h0 : innerE W H n PW PH s id cs = 0
  · have h1 : toE W H n PW PH s id cs (x, y) = lookE W H n (boxX W s id) (boxY W s id) (boxW W s id) (boxH W H s id) x y := by unfold toE; rw [if_pos h0]
    rw [h1] at he ⊢
    have HF := hide (fun (w' : World) => iFar_bad (w := w') W H a n c (boxX W s id) (boxY W s id) (boxW W s id) (boxH W H s id) x y none 0 0 he)
    rw [h0] at HL
    generalize lookE W H n (boxX W s id) (boxY W s id) (boxW W s id) (boxH W H s id) x y = er at *
    have hb : (er != 0) = true := by simpa using he
    obtain ⟨m, hm⟩ : ∃ z, cs.length = z := ⟨_, rfl⟩
    rw [hm] at HL ⊢
    clear hc hl hi h0 h1 he hm hn
    simp only
    go_enter Try.func32, Try.ntmps32
    go_wp2_with fail
    refine (HL.out _ (by (with_reducible (repeat' (first | exact Ext.refl _ | assumption | refine Ext.drew ?_ | refine Ext.drewN ?_ _ | refine Ext.alloc ?_ _ | refine Ext.setCell ?_ ?_ _ | refine Ext.trans ?_ (by assumption)))); all_goals (first | (simp; done) | (simp; omega)))).mono ?_
    rintro e w1 ⟨⟨v, rfl, hv⟩, hb1⟩
    obtain ⟨hc1, hf1⟩ := hb1.cells; have hz1 := hb1.size; (repeat (first | rw [World.size_alloc] at hz1 | rw [World.size_drew] at hz1)); have z1_0 : w.heap.size < w1.heap.size := (by omega); have z1_1 : w.heap.size + 1 < w1.heap.size := (by omega); have z1_2 : w.heap.size + 2 < w1.heap.size := (by omega); have z1_3 : w.heap.size + 3 < w1.heap.size := (by omega)
    rcases hv with ⟨h0, _⟩ | ⟨_, rfl⟩
    · exact absurd rfl h0
    · go_wp2_with fail
      refine (HF.out _).mono ?_
      rintro e w2 ⟨rfl, hb2⟩
      go_wp2_with fail
      go_ret2
      exact ⟨rfl, (by (with_reducible (repeat' (first | exact Ext.refl _ | assumption | refine Ext.drew ?_ | refine Ext.drewN ?_ _ | refine Ext.alloc ?_ _ | refine Ext.setCell ?_ ?_ _ | refine Ext.trans ?_ (by assumption)))); all_goals (first | (simp; done) | (simp; omega)))⟩
  · have h1 : toE W H n PW PH s id cs (x, y) = innerE W H n PW PH s id cs := by unfold toE; rw [if_neg h0]
    rw [h1] at he ⊢
    generalize innerE W H n PW PH s id cs = er at *
    have hb : (er != 0) = true := by simpa using he
    have HER := hide he
    obtain ⟨m, hm⟩ : ∃ z, cs.length = z := ⟨_, rfl⟩
    rw [hm] at HL ⊢
    clear hc hl hi he hm h0 h1 hn
    simp only
    go_enter Try.func32, Try.ntmps32
    go_wp2_with fail
    refine (HL.out _ (by (with_reducible (repeat' (first | exact Ext.refl _ | assumption | refine Ext.drew ?_ | refine Ext.drewN ?_ _ | refine Ext.alloc ?_ _ | refine Ext.setCell ?_ ?_ _ | refine Ext.trans ?_ (by assumption)))); all_goals (first | (simp; done) | (simp; omega)))).mono ?_
    rintro e w1 ⟨⟨v, rfl, hv⟩, hb1⟩
    rcases hv with ⟨_, x1, x2, a3, n3, c3, x4, x5, x6, x7, rfl⟩ | ⟨h0, _⟩
    · go_wp2_with fail
      go_ret2
      exact ⟨rfl, (by (with_reducible (repeat' (first | exact Ext.refl _ | assumption | refine Ext.drew ?_ | refine Ext.drewN ?_ _ | refine Ext.alloc ?_ _ | refine Ext.setCell ?_ ?_ _ | refine Ext.trans ?_ (by assumption)))); all_goals (first | (simp; done) | (simp; omega)))⟩
    · exact absurd h0 HER.out

set_option maxRecDepth 100000 in
theorem iBack_ok {w : World} {W H : Int} {a : Option Addr} {l : List Int} (c : Nat) {PW PH s id : Int} {ca : Option Addr} {cs : List Cell} (cc : Nat) (ra : Option Addr) (rn rc : Nat) {p : Cell} (hr : Row16 w a l) (hc : RowC w ca cs) (hl : cs.length ≤ 1000000) (hi : ∀ p ∈ cs, InI p.1 ∧ InI p.2) (he : toE W H l.length PW PH s id cs p = 0) (L : boxL W H s id l) :
    Calls Try.prog 32 #[.agg #[.int .i64 W, .int .i64 H, .slice a l.length c], .agg #[.int .i64 PW, .int .i64 PH, .int .i64 s], .int .i64 id, .agg #[.slice ca cs.length cc, .slice ra rn rc], .agg #[.int .i64 p.1, .int .i64 p.2]] w fun e w' => ∃ v, e = .returned (.tuple #[v, .int .i64 0]) ∧ Ext w w' ∧ Own u64E w' w.heap.size 38 v (cs.map (fun q => farD L q (idxN W p))) := by
  obtain ⟨h0, h1⟩ := toE_ok he
  obtain ⟨e1, e2, e3, e4, e5, e6⟩ := innerE_ok.1 h0
  have hok := cells_ok e4 e5 e6
  have HL := hide (fun (w' : World) (hx : Ext w w') => iLook_any (w := w') W H a l.length c PW PH s id ca cs cc (hc.ext hx) hl hi)
  rw [h0] at HL
  have hpp := (lookE_ok.1 h1).2.2.2
  have HF := hide (fun (w' : World) (hx : Ext w w') => iFar_ok (w := w') L c p hpp (ca := none) (cs := []) 0 (fun z hz => by cases hz) (by simp) (hr.ext hx) (fun h => by simp at h))
  have HB := hide (fun (w' : World) (pb tb : Nat) (hx : Ext w w') (hP : PlaceAt w' pb W H a l.length c (boxX W s id) (boxY W s id) (boxW W s id) (boxH W H s id)) (h0 : w'.cell? ⟨tb, 0, none⟩ = some (.int .i64 p.1)) (h1 : w'.cell? ⟨tb, 1, none⟩ = some (.int .i64 p.2)) (q : Cell) (hq : q ∈ cs) => iBack1_any (w := w') (pb := pb) (tb := tb) L c q p (hok q hq) hpp (hr.ext hx) hP h0 h1)
  have HCO := hide (fun (w' : World) (hx : Ext w w') => hc.ext hx)
  obtain ⟨x, y⟩ := p
  obtain ⟨n, hn⟩ : ∃ z, l.length = z := ⟨_, rfl⟩
  rw [hn] at HL HF HB ⊢
  obtain ⟨m, hm⟩ : ∃ z, cs.length = z := ⟨_, rfl⟩
  have HM := hide hm
  rw [hm] at HL hl ⊢
  clear hc hi he hr hok hn hm e1 e2 e3 e4 e5 e6 h0 h1 hpp
  simp only [List.length_nil] at HF HB ⊢
  go_enter Try.func32, Try.ntmps32
  go_wp2_with fail
  refine (HL.out _ (by (with_reducible (repeat' (first | exact Ext.refl _ | assumption | refine Ext.drew ?_ | refine Ext.drewN ?_ _ | refine Ext.alloc ?_ _ | refine Ext.setCell ?_ ?_ _ | refine Ext.trans ?_ (by assumption)))); all_goals (first | (simp; done) | (simp; omega)))).mono ?_
  rintro e w1 ⟨⟨v, rfl, hv⟩, hb1⟩
  have BQ1 : Hid (Blk w1 (w.heap.size + 2) 57 #[.slice ca m cc, .slice ra rn rc]) := hide (by refine Blk.ext ?_ hb1; (repeat' (first | exact Blk.new_ (by simp) | refine Blk.drew ?_ | refine Blk.over ?_)))
  have BT1 : Hid (Blk w1 (w.heap.size + 3) 28 #[.int .i64 x, .int .i64 y]) := hide (by refine Blk.ext ?_ hb1; (repeat' (first | exact Blk.new_ (by simp) | refine Blk.drew ?_ | refine Blk.over ?_)))
  have HX1 := hide (show Ext w w1 from (by (with_reducible (repeat' (first | exact Ext.refl _ | assumption | refine Ext.drew ?_ | refine Ext.drewN ?_ _ | refine Ext.alloc ?_ _ | refine Ext.setCell ?_ ?_ _ | refine Ext.trans ?_ (by assumption)))); all_goals (first | (simp; done) | (simp; omega))))
  clear hb1
  rcases hv with ⟨h0, _⟩ | ⟨_, rfl⟩
  · exact absurd rfl h0
  · have q0 := BQ1.out.at 0 rfl; have q1 := BQ1.out.at 1 rfl; have qz := BQ1.out.lt
    have t0 := BT1.out.at 0 rfl; have t1 := BT1.out.at 1 rfl; have tz := BT1.out.lt
    go_wp2_with fail
    obtain ⟨w2, hw2⟩ : ∃ w2, w2 = w1.alloc (.cells #[.int .i64 W, .int .i64 H, .slice a n c, .int .i64 (boxX W s id), .int .i64 (boxY W s id), .int .i64 (boxW W s id), .int .i64 (boxH W H s id)] 134) := ⟨_, rfl⟩
    have hx2 : Ext w1 w2 := by rw [hw2]; exact (Ext.refl _).alloc _
    have PL2 := hide (show PlaceAt w2 w1.heap.size W H a n c (boxX W s id) (boxY W s id) (boxW W s id) (boxH W H s id) by rw [hw2]; exact Blk.new_ rfl)
    have BQ2 := hide (Blk.ext BQ1.out hx2)
    have BT2 := hide (Blk.ext BT1.out hx2)
    have HX2 := hide (HX1.out.trans hx2)
    have hz12 : w1.heap.size < w2.heap.size := by rw [hw2]; simp
    rw [← hw2]
    clear hw2 hx2 q0 q1 qz t0 t1 tz BQ1 BT1 HX1
    refine (HF.out _ HX2.out).mono ?_
    rintro e w3 ⟨sv, rfl, hx3, _⟩
    have PL3 := hide (Blk.ext PL2.out hx3)
    have BQ3 := hide (Blk.ext BQ2.out hx3)
    have BT3 := hide (Blk.ext BT2.out hx3)
    have HX3 := hide (HX2.out.trans hx3)
    have HC3 := hide (HCO.out w3 HX3.out)
    clear hx3 BQ2 BT2 PL2
    have q0 := BQ3.out.at 0 rfl; have q1 := BQ3.out.at 1 rfl; have qz := BQ3.out.lt
    go_wp2_with fail
    have HE := eachU64_any (w := w3) (f := 81) (caps := #[.pointer (some ⟨w1.heap.size, 0, none⟩), .pointer (some ⟨w.heap.size + 3, 0, none⟩)]) (g := fun q => farD L q (idxN W (x, y))) cc (by rw [HM.out]; exact hl) HC3.out
      (fun w' hx q hq => HB.out w' w1.heap.size (w.heap.size + 3) (HX3.out.trans hx) (Blk.ext PL3.out hx) (by exact (Blk.ext BT3.out hx).at 0 rfl) (by exact (Blk.ext BT3.out hx).at 1 rfl) q hq)
      (enters_of Try.func81 (by kernel_rfl) rfl)
    rw [HM.out] at HE
    refine HE.mono ?_
    rintro e w4 ⟨v4, rfl, hx4, ho4⟩
    have hz3 := HX3.out.size
    obtain ⟨sa, sc, hs⟩ := ho4.slice
    rw [List.length_map] at hs
    subst hs
    have O4 := hide (ho4.lower (base' := w.heap.size) (by omega))
    have X4 := hide (HX3.out.trans hx4)
    clear hx4 ho4 HE
    go_wp2_with fail
    go_ret2
    exact ⟨.slice sa cs.length sc, rfl, X4.out, O4.out⟩
end Go.Proofs.Ytifbmapianddcaa

/- Rows that are compared, of layer 13. -/
namespace Go.Proofs.Ytifbmapianddcaa
open Go.RowKit

/-- A row of costs that is read. -/
def RowU (w : World) (a : Option Addr) (l : List Int) : Prop := 0 < l.length → ∃ b off, a = some ⟨b, off, none⟩ ∧ b < w.heap.size ∧ ∀ k (h : k < l.length), w.cell? ⟨b, off + k, none⟩ = some (.int .u64 l[k])
theorem RowU.ext {w w' : World} {a : Option Addr} {l : List Int} (h : RowU w a l) (e : Ext w w') : RowU w' a l := fun h0 => by
  obtain ⟨b, off, ha, hb, hc⟩ := h h0
  exact ⟨b, off, ha, Nat.lt_of_lt_of_le hb e.size, fun k hk => (e.cell (p := ⟨b, off + k, none⟩) hb).trans (hc k hk)⟩
theorem Reads.rowU {w : World} {a : Option Addr} {n c : Nat} {l : List Int} (h : Reads u64E w (.slice a n c) l) : n = l.length ∧ RowU w a l := by
  rcases h with ⟨hv, rfl⟩ | ⟨b, off, cap, hv, hb, hc⟩
  · injection hv with h1 h2 _
    exact ⟨h2, fun h => by simp at h⟩
  · injection hv with h1 h2 _
    refine ⟨h2, fun _ => ⟨b, off, h1, hb, fun k hk => ?_⟩⟩
    have := hc k l[k] (List.getElem?_eq_getElem hk) 0 (.int .u64 l[k]) rfl
    simpa [u64E] using this

set_option maxRecDepth 100000 in
theorem same13_any (a b : Option Addr) (l m : List Int) (c d : Nat) (w : World) (hl : l.length ≤ 1000000) (ha : RowU w a l) (hb : RowU w b m) :
    Calls Try.prog 35 #[.slice a l.length c, .slice b m.length d] w fun e w' => e = .returned (.bool (decide (l = m))) ∧ Ext w w' := by
  by_cases hlen : l.length = m.length
  · have HA := hide ha
    have HB := hide hb
    have HLM := hide hlen
    obtain ⟨n, hn⟩ : ∃ n, l.length = n := ⟨_, rfl⟩
    have HN := hide hn
    rw [← hlen, hn]
    rw [hn] at hl
    clear ha hb hlen hn
    go_enter Try.func35, Try.ntmps35
    go_wp2_with fail
    go_loopw [5] (fun i wr => ∃ k : Nat, k ≤ n ∧ i = .int .i64 k ∧ l.take k = m.take k ∧ Ext w wr) (fun i _ => n - (intOf i).toNat)
    case atStart => exact ⟨0, Nat.zero_le _, rfl, rfl, (by (with_reducible (repeat' (first | exact Ext.refl _ | assumption | refine Ext.drew ?_ | refine Ext.drewN ?_ _ | refine Ext.alloc ?_ _ | refine Ext.setCell ?_ ?_ _ | refine Ext.trans ?_ (by assumption)))); all_goals (first | (simp; done) | (simp; omega)))⟩
    case round =>
      obtain ⟨k, hk, rfl, htk, hx⟩ := hrel
      have HT := hide htk
      have HX := hide hx
      clear htk hx
      by_cases hlt : k < n
      · have h1 : k < l.length := by rw [HN.out]; exact hlt
        have h2 : k < m.length := by rw [← HLM.out]; exact h1
        obtain ⟨ba, oa, rfl, za, ca⟩ := HA.out (by omega)
        obtain ⟨bb, ob, rfl, zb, cb⟩ := HB.out (by omega)
        have d0 := (HX.out.cell (p := ⟨ba, oa + k, none⟩) za).trans (ca k h1)
        have d1 := (HX.out.cell (p := ⟨bb, ob + k, none⟩) zb).trans (cb k h2)
        have z0 : ba < wr.heap.size := Nat.lt_of_lt_of_le za HX.out.size
        have z1 : bb < wr.heap.size := Nat.lt_of_lt_of_le zb HX.out.size
        have jk : (k : Int) < (n : Int) := by omega
        have e1 : l[k]? = some l[k] := List.getElem?_eq_getElem h1
        have e2 : m[k]? = some m[k] := List.getElem?_eq_getElem h2
        obtain ⟨x, hx⟩ : ∃ x, l[k] = x := ⟨_, rfl⟩
        obtain ⟨y, hy⟩ : ∃ y, m[k] = y := ⟨_, rfl⟩
        rw [hx] at d0 e1
        rw [hy] at d1 e2
        have E1 := hide e1
        have E2 := hide e2
        clear h1 h2 ca cb hx hy e1 e2
        by_cases hxy : x = y
        · have HN1 : Hid (l.take (k + 1) = m.take (k + 1)) := hide (by rw [List.take_add_one, List.take_add_one, E1.out, E2.out, HT.out, hxy])
          have hb1 : (x != y) = false := by simpa using hxy
          have hx := HX.out
          clear hxy
          go_wp2
          go_quiet (fail)
          go_wp2
          go_roundw
          case rel => exact ⟨k + 1, hlt, by go_num, HN1.out, (by (with_reducible (repeat' (first | exact Ext.refl _ | assumption | refine Ext.drew ?_ | refine Ext.drewN ?_ _ | refine Ext.alloc ?_ _ | refine Ext.setCell ?_ ?_ _ | refine Ext.trans ?_ (by assumption)))); all_goals (first | (simp; done) | (simp; omega)))⟩
          case measure => simp [intOf]; omega
        · have HF : Hid (decide (l = m) = false) := hide (by simp only [decide_eq_false_iff_not]; intro e; rw [e, E2.out] at E1; exact hxy (Option.some.inj E1.out).symm)
          have hb1 : (x != y) = true := by simpa using hxy
          clear hxy
          have hx := HX.out
          go_wp2
          go_quiet (fail)
          go_wp2
          go_ret
          exact ⟨by rw [HF.out] <;> rfl, (by (with_reducible (repeat' (first | exact Ext.refl _ | assumption | refine Ext.drew ?_ | refine Ext.drewN ?_ _ | refine Ext.alloc ?_ _ | refine Ext.setCell ?_ ?_ _ | refine Ext.trans ?_ (by assumption)))); all_goals (first | (simp; done) | (simp; omega)))⟩
      · obtain rfl : n = k := by omega
        have HF : Hid (decide (l = m) = true) := hide (by
          have h := HT.out
          rw [List.take_of_length_le (by rw [HN.out]; exact Nat.le_refl _), List.take_of_length_le (by rw [← HLM.out, HN.out]; exact Nat.le_refl _)] at h
          simpa using h)
        have hx := HX.out
        go_wp2
        go_ret
        exact ⟨by rw [HF.out] <;> rfl, (by (with_reducible (repeat' (first | exact Ext.refl _ | assumption | refine Ext.drew ?_ | refine Ext.drewN ?_ _ | refine Ext.alloc ?_ _ | refine Ext.setCell ?_ ?_ _ | refine Ext.trans ?_ (by assumption)))); all_goals (first | (simp; done) | (simp; omega)))⟩
  · have HF : Hid (decide (l = m) = false) := hide (by simp only [decide_eq_false_iff_not]; intro e; exact hlen (by rw [e]))
    have hb0 : ((l.length : Int) != (m.length : Int)) = true := by simp; omega
    obtain ⟨n, hn⟩ : ∃ n, l.length = n := ⟨_, rfl⟩
    obtain ⟨n2, hn2⟩ : ∃ n, m.length = n := ⟨_, rfl⟩
    have hb1 : (n != n2) = true := by simp; omega
    rw [hn, hn2] at hb0 ⊢
    clear ha hb hlen hn hn2
    go_enter Try.func35, Try.ntmps35
    go_wp2
    go_ret
    exact ⟨by rw [HF.out] <;> rfl, (by (with_reducible (repeat' (first | exact Ext.refl _ | assumption | refine Ext.drew ?_ | refine Ext.drewN ?_ _ | refine Ext.alloc ?_ _ | refine Ext.setCell ?_ ?_ _ | refine Ext.trans ?_ (by assumption)))); all_goals (first | (simp; done) | (simp; omega)))⟩

set_option maxRecDepth 100000 in
theorem equalU64_any (a b : Option Addr) (l m : List Int) (c d : Nat) (w : World) (hl : l.length ≤ 1000000) (ha : RowU w a l) (hb : RowU w b m) :
    Calls Try.prog 85 #[.slice a l.length c, .slice b m.length d] w fun e w' => e = .returned (.bool (decide (l = m))) ∧ Ext w w' := by
  by_cases hlen : l.length = m.length
  · have HA := hide ha
    have HB := hide hb
    have HLM := hide hlen
    obtain ⟨n, hn⟩ : ∃ n, l.length = n := ⟨_, rfl⟩
    have HN := hide hn
    rw [← hlen, hn]
    rw [hn] at hl
    clear ha hb hlen hn
    go_enter Try.func85, Try.ntmps85
    go_wp2_with fail
    go_loopw [13] (fun i wr => ∃ k : Nat, k ≤ n ∧ i = .int .i64 k ∧ l.take k = m.take k ∧ Ext w wr) (fun i _ => n - (intOf i).toNat)
    case atStart => exact ⟨0, Nat.zero_le _, rfl, rfl, (by (with_reducible (repeat' (first | exact Ext.refl _ | assumption | refine Ext.drew ?_ | refine Ext.drewN ?_ _ | refine Ext.alloc ?_ _ | refine Ext.setCell ?_ ?_ _ | refine Ext.trans ?_ (by assumption)))); all_goals (first | (simp; done) | (simp; omega)))⟩
    case round =>
      obtain ⟨k, hk, rfl, htk, hx⟩ := hrel
      have HT := hide htk
      have HX := hide hx
      clear htk hx
      by_cases hlt : k < n
      · have h1 : k < l.length := by rw [HN.out]; exact hlt
        have h2 : k < m.length := by rw [← HLM.out]; exact h1
        obtain ⟨ba, oa, rfl, za, ca⟩ := HA.out (by omega)
        obtain ⟨bb, ob, rfl, zb, cb⟩ := HB.out (by omega)
        have d0 := (HX.out.cell (p := ⟨ba, oa + k, none⟩) za).trans (ca k h1)
        have d1 := (HX.out.cell (p := ⟨bb, ob + k, none⟩) zb).trans (cb k h2)
        have z0 : ba < wr.heap.size := Nat.lt_of_lt_of_le za HX.out.size
        have z1 : bb < wr.heap.size := Nat.lt_of_lt_of_le zb HX.out.size
        have jk : (k : Int) < (n : Int) := by omega
        have e1 : l[k]? = some l[k] := List.getElem?_eq_getElem h1
        have e2 : m[k]? = some m[k] := List.getElem?_eq_getElem h2
        obtain ⟨x, hx⟩ : ∃ x, l[k] = x := ⟨_, rfl⟩
        obtain ⟨y, hy⟩ : ∃ y, m[k] = y := ⟨_, rfl⟩
        rw [hx] at d0 e1
        rw [hy] at d1 e2
        have E1 := hide e1
        have E2 := hide e2
        clear h1 h2 ca cb hx hy e1 e2
        by_cases hxy : x = y
        · have HN1 : Hid (l.take (k + 1) = m.take (k + 1)) := hide (by rw [List.take_add_one, List.take_add_one, E1.out, E2.out, HT.out, hxy])
          have hb1 : (x != y) = false := by simpa using hxy
          have hx := HX.out
          clear hxy
          go_wp2
          go_quiet (fail)
          go_wp2
          go_roundw
          case rel => exact ⟨k + 1, hlt, by go_num, HN1.out, (by (with_reducible (repeat' (first | exact Ext.refl _ | assumption | refine Ext.drew ?_ | refine Ext.drewN ?_ _ | refine Ext.alloc ?_ _ | refine Ext.setCell ?_ ?_ _ | refine Ext.trans ?_ (by assumption)))); all_goals (first | (simp; done) | (simp; omega)))⟩
          case measure => simp [intOf]; omega
        · have HF : Hid (decide (l = m) = false) := hide (by simp only [decide_eq_false_iff_not]; intro e; rw [e, E2.out] at E1; exact hxy (Option.some.inj E1.out).symm)
          have hb1 : (x != y) = true := by simpa using hxy
          clear hxy
          have hx := HX.out
          go_wp2
          go_quiet (fail)
          go_wp2
          go_ret
          exact ⟨by rw [HF.out] <;> rfl, (by (with_reducible (repeat' (first | exact Ext.refl _ | assumption | refine Ext.drew ?_ | refine Ext.drewN ?_ _ | refine Ext.alloc ?_ _ | refine Ext.setCell ?_ ?_ _ | refine Ext.trans ?_ (by assumption)))); all_goals (first | (simp; done) | (simp; omega)))⟩
      · obtain rfl : n = k := by omega
        have HF : Hid (decide (l = m) = true) := hide (by
          have h := HT.out
          rw [List.take_of_length_le (by rw [HN.out]; exact Nat.le_refl _), List.take_of_length_le (by rw [← HLM.out, HN.out]; exact Nat.le_refl _)] at h
          simpa using h)
        have hx := HX.out
        go_wp2
        go_ret
        exact ⟨by rw [HF.out] <;> rfl, (by (with_reducible (repeat' (first | exact Ext.refl _ | assumption | refine Ext.drew ?_ | refine Ext.drewN ?_ _ | refine Ext.alloc ?_ _ | refine Ext.setCell ?_ ?_ _ | refine Ext.trans ?_ (by assumption)))); all_goals (first | (simp; done) | (simp; omega)))⟩
  · have HF : Hid (decide (l = m) = false) := hide (by simp only [decide_eq_false_iff_not]; intro e; exact hlen (by rw [e]))
    have hb0 : ((l.length : Int) != (m.length : Int)) = true := by simp; omega
    obtain ⟨n, hn⟩ : ∃ n, l.length = n := ⟨_, rfl⟩
    obtain ⟨n2, hn2⟩ : ∃ n, m.length = n := ⟨_, rfl⟩
    have hb1 : (n != n2) = true := by simp; omega
    rw [hn, hn2] at hb0 ⊢
    clear ha hb hlen hn hn2
    go_enter Try.func85, Try.ntmps85
    go_wp2
    go_ret
    exact ⟨by rw [HF.out] <;> rfl, (by (with_reducible (repeat' (first | exact Ext.refl _ | assumption | refine Ext.drew ?_ | refine Ext.drewN ?_ _ | refine Ext.alloc ?_ _ | refine Ext.setCell ?_ ?_ _ | refine Ext.trans ?_ (by assumption)))); all_goals (first | (simp; done) | (simp; omega)))⟩
end Go.Proofs.Ytifbmapianddcaa

/- Rows of cells, and of rows, that are compared, of layer 13. -/
namespace Go.Proofs.Ytifbmapianddcaa
open Go.RowKit

set_option maxRecDepth 100000 in
theorem cells13_any (a b : Option Addr) (l m : List Cell) (c d : Nat) (w : World) (hl : l.length ≤ 1000000) (ha : RowC w a l) (hb : RowC w b m) :
    Calls Try.prog 29 #[.slice a l.length c, .slice b m.length d] w fun e w' => e = .returned (.bool (decide (l = m))) ∧ Ext w w' := by
  by_cases hlen : l.length = m.length
  · have HA := hide ha
    have HB := hide hb
    have HLM := hide hlen
    obtain ⟨n, hn⟩ : ∃ n, l.length = n := ⟨_, rfl⟩
    have HN := hide hn
    rw [← hlen, hn]
    rw [hn] at hl
    clear ha hb hlen hn
    go_enter Try.func29, Try.ntmps29
    go_wp2_with fail
    go_loopw [5] (fun i wr => ∃ k : Nat, k ≤ n ∧ i = .int .i64 k ∧ l.take k = m.take k ∧ Ext w wr) (fun i _ => n - (intOf i).toNat)
    case atStart => exact ⟨0, Nat.zero_le _, rfl, rfl, (by (with_reducible (repeat' (first | exact Ext.refl _ | assumption | refine Ext.drew ?_ | refine Ext.drewN ?_ _ | refine Ext.alloc ?_ _ | refine Ext.setCell ?_ ?_ _ | refine Ext.trans ?_ (by assumption)))); all_goals (first | (simp; done) | (simp; omega)))⟩
    case round =>
      obtain ⟨k, hk, rfl, htk, hx⟩ := hrel
      have HT := hide htk
      have HX := hide hx
      clear htk hx
      by_cases hlt : k < n
      · have h1 : k < l.length := by rw [HN.out]; exact hlt
        have h2 : k < m.length := by rw [← HLM.out]; exact h1
        obtain ⟨ba, oa, rfl, za, ca⟩ := HA.out (by omega)
        obtain ⟨bb, ob, rfl, zb, cb⟩ := HB.out (by omega)
        have d0 := (HX.out.cell (p := ⟨ba, oa + k * 2, none⟩) za).trans (ca k h1).1
        have d2 := (HX.out.cell (p := ⟨ba, oa + k * 2 + 1, none⟩) za).trans (ca k h1).2
        have d1 := (HX.out.cell (p := ⟨bb, ob + k * 2, none⟩) zb).trans (cb k h2).1
        have d3 := (HX.out.cell (p := ⟨bb, ob + k * 2 + 1, none⟩) zb).trans (cb k h2).2
        have z0 : ba < wr.heap.size := Nat.lt_of_lt_of_le za HX.out.size
        have z1 : bb < wr.heap.size := Nat.lt_of_lt_of_le zb HX.out.size
        have jk : (k : Int) < (n : Int) := by omega
        have e1 : l[k]? = some l[k] := List.getElem?_eq_getElem h1
        have e2 : m[k]? = some m[k] := List.getElem?_eq_getElem h2
        obtain ⟨x, hx⟩ : ∃ x, l[k] = x := ⟨_, rfl⟩
        obtain ⟨y, hy⟩ : ∃ y, m[k] = y := ⟨_, rfl⟩
        rw [hx] at d0 d2 e1
        rw [hy] at d1 d3 e2
        have E1 := hide e1
        have E2 := hide e2
        clear h1 h2 ca cb hx hy e1 e2
        by_cases hxy : x = y
        · have HN1 : Hid (l.take (k + 1) = m.take (k + 1)) := hide (by rw [List.take_add_one, List.take_add_one, E1.out, E2.out, HT.out, hxy])
          have hq1 : ∀ w, (Op.equalIn 10000 28 (.agg #[.int .i64 x.1, .int .i64 x.2]) (.agg #[.int .i64 y.1, .int .i64 y.2])).run Try.prog w = .ok true w := fun w => by rw [eq_cell x y w, cellB_eq]; simp [hxy]
          have hx := HX.out
          clear hxy
          go_wp2
          go_quiet (fail)
          go_wp2
          go_roundw
          case rel => exact ⟨k + 1, hlt, by go_num, HN1.out, (by (with_reducible (repeat' (first | exact Ext.refl _ | assumption | refine Ext.drew ?_ | refine Ext.drewN ?_ _ | refine Ext.alloc ?_ _ | refine Ext.setCell ?_ ?_ _ | refine Ext.trans ?_ (by assumption)))); all_goals (first | (simp; done) | (simp; omega)))⟩
          case measure => simp [intOf]; omega
        · have HF : Hid (decide (l = m) = false) := hide (by simp only [decide_eq_false_iff_not]; intro e; rw [e, E2.out] at E1; exact hxy (Option.some.inj E1.out).symm)
          have hq1 : ∀ w, (Op.equalIn 10000 28 (.agg #[.int .i64 x.1, .int .i64 x.2]) (.agg #[.int .i64 y.1, .int .i64 y.2])).run Try.prog w = .ok false w := fun w => by rw [eq_cell x y w, cellB_eq]; simp [hxy]
          clear hxy
          have hx := HX.out
          go_wp2
          go_quiet (fail)
          go_wp2
          go_ret
          exact ⟨by rw [HF.out] <;> rfl, (by (with_reducible (repeat' (first | exact Ext.refl _ | assumption | refine Ext.drew ?_ | refine Ext.drewN ?_ _ | refine Ext.alloc ?_ _ | refine Ext.setCell ?_ ?_ _ | refine Ext.trans ?_ (by assumption)))); all_goals (first | (simp; done) | (simp; omega)))⟩
      · obtain rfl : n = k := by omega
        have HF : Hid (decide (l = m) = true) := hide (by
          have h := HT.out
          rw [List.take_of_length_le (by rw [HN.out]; exact Nat.le_refl _), List.take_of_length_le (by rw [← HLM.out, HN.out]; exact Nat.le_refl _)] at h
          simpa using h)
        have hx := HX.out
        go_wp2
        go_ret
        exact ⟨by rw [HF.out] <;> rfl, (by (with_reducible (repeat' (first | exact Ext.refl _ | assumption | refine Ext.drew ?_ | refine Ext.drewN ?_ _ | refine Ext.alloc ?_ _ | refine Ext.setCell ?_ ?_ _ | refine Ext.trans ?_ (by assumption)))); all_goals (first | (simp; done) | (simp; omega)))⟩
  · have HF : Hid (decide (l = m) = false) := hide (by simp only [decide_eq_false_iff_not]; intro e; exact hlen (by rw [e]))
    have hb0 : ((l.length : Int) != (m.length : Int)) = true := by simp; omega
    obtain ⟨n, hn⟩ : ∃ n, l.length = n := ⟨_, rfl⟩
    obtain ⟨n2, hn2⟩ : ∃ n, m.length = n := ⟨_, rfl⟩
    have hb1 : (n != n2) = true := by simp; omega
    rw [hn, hn2] at hb0 ⊢
    clear ha hb hlen hn hn2
    go_enter Try.func29, Try.ntmps29
    go_wp2
    go_ret
    exact ⟨by rw [HF.out] <;> rfl, (by (with_reducible (repeat' (first | exact Ext.refl _ | assumption | refine Ext.drew ?_ | refine Ext.drewN ?_ _ | refine Ext.alloc ?_ _ | refine Ext.setCell ?_ ?_ _ | refine Ext.trans ?_ (by assumption)))); all_goals (first | (simp; done) | (simp; omega)))⟩

set_option maxRecDepth 100000 in
theorem equalCell_any (a b : Option Addr) (l m : List Cell) (c d : Nat) (w : World) (hl : l.length ≤ 1000000) (ha : RowC w a l) (hb : RowC w b m) :
    Calls Try.prog 83 #[.slice a l.length c, .slice b m.length d] w fun e w' => e = .returned (.bool (decide (l = m))) ∧ Ext w w' := by
  by_cases hlen : l.length = m.length
  · have HA := hide ha
    have HB := hide hb
    have HLM := hide hlen
    obtain ⟨n, hn⟩ : ∃ n, l.length = n := ⟨_, rfl⟩
    have HN := hide hn
    rw [← hlen, hn]
    rw [hn] at hl
    clear ha hb hlen hn
    go_enter Try.func83, Try.ntmps83
    go_wp2_with fail
    go_loopw [13] (fun i wr => ∃ k : Nat, k ≤ n ∧ i = .int .i64 k ∧ l.take k = m.take k ∧ Ext w wr) (fun i _ => n - (intOf i).toNat)
    case atStart => exact ⟨0, Nat.zero_le _, rfl, rfl, (by (with_reducible (repeat' (first | exact Ext.refl _ | assumption | refine Ext.drew ?_ | refine Ext.drewN ?_ _ | refine Ext.alloc ?_ _ | refine Ext.setCell ?_ ?_ _ | refine Ext.trans ?_ (by assumption)))); all_goals (first | (simp; done) | (simp; omega)))⟩
    case round =>
      obtain ⟨k, hk, rfl, htk, hx⟩ := hrel
      have HT := hide htk
      have HX := hide hx
      clear htk hx
      by_cases hlt : k < n
      · have h1 : k < l.length := by rw [HN.out]; exact hlt
        have h2 : k < m.length := by rw [← HLM.out]; exact h1
        obtain ⟨ba, oa, rfl, za, ca⟩ := HA.out (by omega)
        obtain ⟨bb, ob, rfl, zb, cb⟩ := HB.out (by omega)
        have d0 := (HX.out.cell (p := ⟨ba, oa + k * 2, none⟩) za).trans (ca k h1).1
        have d2 := (HX.out.cell (p := ⟨ba, oa + k * 2 + 1, none⟩) za).trans (ca k h1).2
        have d1 := (HX.out.cell (p := ⟨bb, ob + k * 2, none⟩) zb).trans (cb k h2).1
        have d3 := (HX.out.cell (p := ⟨bb, ob + k * 2 + 1, none⟩) zb).trans (cb k h2).2
        have z0 : ba < wr.heap.size := Nat.lt_of_lt_of_le za HX.out.size
        have z1 : bb < wr.heap.size := Nat.lt_of_lt_of_le zb HX.out.size
        have jk : (k : Int) < (n : Int) := by omega
        have e1 : l[k]? = some l[k] := List.getElem?_eq_getElem h1
        have e2 : m[k]? = some m[k] := List.getElem?_eq_getElem h2
        obtain ⟨x, hx⟩ : ∃ x, l[k] = x := ⟨_, rfl⟩
        obtain ⟨y, hy⟩ : ∃ y, m[k] = y := ⟨_, rfl⟩
        rw [hx] at d0 d2 e1
        rw [hy] at d1 d3 e2
        have E1 := hide e1
        have E2 := hide e2
        clear h1 h2 ca cb hx hy e1 e2
        by_cases hxy : x = y
        · have HN1 : Hid (l.take (k + 1) = m.take (k + 1)) := hide (by rw [List.take_add_one, List.take_add_one, E1.out, E2.out, HT.out, hxy])
          have hq1 : ∀ w, (Op.equalIn 10000 28 (.agg #[.int .i64 x.1, .int .i64 x.2]) (.agg #[.int .i64 y.1, .int .i64 y.2])).run Try.prog w = .ok true w := fun w => by rw [eq_cell x y w, cellB_eq]; simp [hxy]
          have hx := HX.out
          clear hxy
          go_wp2
          go_quiet (fail)
          go_wp2
          go_roundw
          case rel => exact ⟨k + 1, hlt, by go_num, HN1.out, (by (with_reducible (repeat' (first | exact Ext.refl _ | assumption | refine Ext.drew ?_ | refine Ext.drewN ?_ _ | refine Ext.alloc ?_ _ | refine Ext.setCell ?_ ?_ _ | refine Ext.trans ?_ (by assumption)))); all_goals (first | (simp; done) | (simp; omega)))⟩
          case measure => simp [intOf]; omega
        · have HF : Hid (decide (l = m) = false) := hide (by simp only [decide_eq_false_iff_not]; intro e; rw [e, E2.out] at E1; exact hxy (Option.some.inj E1.out).symm)
          have hq1 : ∀ w, (Op.equalIn 10000 28 (.agg #[.int .i64 x.1, .int .i64 x.2]) (.agg #[.int .i64 y.1, .int .i64 y.2])).run Try.prog w = .ok false w := fun w => by rw [eq_cell x y w, cellB_eq]; simp [hxy]
          clear hxy
          have hx := HX.out
          go_wp2
          go_quiet (fail)
          go_wp2
          go_ret
          exact ⟨by rw [HF.out] <;> rfl, (by (with_reducible (repeat' (first | exact Ext.refl _ | assumption | refine Ext.drew ?_ | refine Ext.drewN ?_ _ | refine Ext.alloc ?_ _ | refine Ext.setCell ?_ ?_ _ | refine Ext.trans ?_ (by assumption)))); all_goals (first | (simp; done) | (simp; omega)))⟩
      · obtain rfl : n = k := by omega
        have HF : Hid (decide (l = m) = true) := hide (by
          have h := HT.out
          rw [List.take_of_length_le (by rw [HN.out]; exact Nat.le_refl _), List.take_of_length_le (by rw [← HLM.out, HN.out]; exact Nat.le_refl _)] at h
          simpa using h)
        have hx := HX.out
        go_wp2
        go_ret
        exact ⟨by rw [HF.out] <;> rfl, (by (with_reducible (repeat' (first | exact Ext.refl _ | assumption | refine Ext.drew ?_ | refine Ext.drewN ?_ _ | refine Ext.alloc ?_ _ | refine Ext.setCell ?_ ?_ _ | refine Ext.trans ?_ (by assumption)))); all_goals (first | (simp; done) | (simp; omega)))⟩
  · have HF : Hid (decide (l = m) = false) := hide (by simp only [decide_eq_false_iff_not]; intro e; exact hlen (by rw [e]))
    have hb0 : ((l.length : Int) != (m.length : Int)) = true := by simp; omega
    obtain ⟨n, hn⟩ : ∃ n, l.length = n := ⟨_, rfl⟩
    obtain ⟨n2, hn2⟩ : ∃ n, m.length = n := ⟨_, rfl⟩
    have hb1 : (n != n2) = true := by simp; omega
    rw [hn, hn2] at hb0 ⊢
    clear ha hb hlen hn hn2
    go_enter Try.func83, Try.ntmps83
    go_wp2
    go_ret
    exact ⟨by rw [HF.out] <;> rfl, (by (with_reducible (repeat' (first | exact Ext.refl _ | assumption | refine Ext.drew ?_ | refine Ext.drewN ?_ _ | refine Ext.alloc ?_ _ | refine Ext.setCell ?_ ?_ _ | refine Ext.trans ?_ (by assumption)))); all_goals (first | (simp; done) | (simp; omega)))⟩

/-- Rows of costs that are read. -/
def RowsU (w : World) (a : Option Addr) (ll : List (List Int)) : Prop := 0 < ll.length → ∃ b off, a = some ⟨b, off, none⟩ ∧ b < w.heap.size ∧ ∀ k (h : k < ll.length), ∃ sa sc, w.cell? ⟨b, off + k, none⟩ = some (.slice sa ll[k].length sc) ∧ RowU w sa ll[k]
theorem RowsU.ext {w w' : World} {a : Option Addr} {l : List (List Int)} (h : RowsU w a l) (e : Ext w w') : RowsU w' a l := fun h0 => by
  obtain ⟨b, off, ha, hb, hc⟩ := h h0
  exact ⟨b, off, ha, Nat.lt_of_lt_of_le hb e.size, fun k hk => by
    obtain ⟨sa, sc, h1, h2⟩ := hc k hk
    exact ⟨sa, sc, (e.cell (p := ⟨b, off + k, none⟩) hb).trans h1, h2.ext e⟩⟩

set_option maxRecDepth 100000 in
theorem rows13_any (a b : Option Addr) (l m : List (List Int)) (c d : Nat) (w : World) (hl : l.length ≤ 1000000) (ha : RowsU w a l) (hb : RowsU w b m) (hs : ∀ r, r ∈ l → r.length ≤ 1000000) :
    Calls Try.prog 30 #[.slice a l.length c, .slice b m.length d] w fun e w' => e = .returned (.bool (decide (l = m))) ∧ Ext w w' := by
  by_cases hlen : l.length = m.length
  · have HS := hide hs
    have HA := hide ha
    have HB := hide hb
    have HLM := hide hlen
    obtain ⟨n, hn⟩ : ∃ n, l.length = n := ⟨_, rfl⟩
    have HN := hide hn
    rw [← hlen, hn]
    rw [hn] at hl
    clear ha hb hlen hn hs
    go_enter Try.func30, Try.ntmps30
    go_wp2_with fail
    go_loopw [5] (fun i wr => ∃ k : Nat, k ≤ n ∧ i = .int .i64 k ∧ l.take k = m.take k ∧ Ext w wr) (fun i _ => n - (intOf i).toNat)
    case atStart => exact ⟨0, Nat.zero_le _, rfl, rfl, (by (with_reducible (repeat' (first | exact Ext.refl _ | assumption | refine Ext.drew ?_ | refine Ext.drewN ?_ _ | refine Ext.alloc ?_ _ | refine Ext.setCell ?_ ?_ _ | refine Ext.trans ?_ (by assumption)))); all_goals (first | (simp; done) | (simp; omega)))⟩
    case round =>
      obtain ⟨k, hk, rfl, htk, hx⟩ := hrel
      have HT := hide htk
      have HX := hide hx
      clear htk hx
      by_cases hlt : k < n
      · have h1 : k < l.length := by rw [HN.out]; exact hlt
        have h2 : k < m.length := by rw [← HLM.out]; exact h1
        obtain ⟨ba, oa, rfl, za, ca⟩ := HA.out (by omega)
        obtain ⟨bb, ob, rfl, zb, cb⟩ := HB.out (by omega)
        obtain ⟨sa, sca, c0, r0⟩ := ca k h1
        obtain ⟨sb, scb, c1, r1⟩ := cb k h2
        have d0 := (HX.out.cell (p := ⟨ba, oa + k, none⟩) za).trans c0
        have d1 := (HX.out.cell (p := ⟨bb, ob + k, none⟩) zb).trans c1
        have hl1 := HS.out l[k] (List.getElem_mem h1)
        have z0 : ba < wr.heap.size := Nat.lt_of_lt_of_le za HX.out.size
        have z1 : bb < wr.heap.size := Nat.lt_of_lt_of_le zb HX.out.size
        have jk : (k : Int) < (n : Int) := by omega
        have e1 : l[k]? = some l[k] := List.getElem?_eq_getElem h1
        have e2 : m[k]? = some m[k] := List.getElem?_eq_getElem h2
        obtain ⟨x, hx⟩ : ∃ x, l[k] = x := ⟨_, rfl⟩
        obtain ⟨y, hy⟩ : ∃ y, m[k] = y := ⟨_, rfl⟩
        rw [hx] at d0 e1 r0 hl1
        rw [hy] at d1 e2 r1
        have HI := hide (fun (w' : World) (hx : Ext wr w') => same13_any sa sb x y sca scb w' hl1 ((r0.ext HX.out).ext hx) ((r1.ext HX.out).ext hx))
        have E1 := hide e1
        have E2 := hide e2
        clear h1 h2 ca cb hx hy e1 e2 c0 c1 r0 r1 hl1
        by_cases hxy : x = y
        · have HN1 : Hid (l.take (k + 1) = m.take (k + 1)) := hide (by rw [List.take_add_one, List.take_add_one, E1.out, E2.out, HT.out, hxy])
          have hb1 : decide (x = y) = true := by simpa using hxy
          rw [hb1] at HI
          clear hxy hb1
          go_wp2_with fail
          refine seqH_start (S := (fun W => (∀ b o, b < wr.heap.size → W.cell? ⟨b, o, none⟩ = wr.cell? ⟨b, o, none⟩) ∧ Ext wr W)) [(0, true), (1, true), (2, true), (3, true), (4, true), (5, true), (6, true), (7, true), (8, false), (9, true)] (by kernel_rfl) (by kernel_rfl) (by kernel_rfl) (by decide) (fun _ _ d _ _ h => by cases d <;> exact h) (by first | with_reducible exact pr_start _ | exact pr_of (by (with_reducible (repeat' (first | exact Ext.refl _ | assumption | refine Ext.drew ?_ | refine Ext.drewN ?_ _ | refine Ext.alloc ?_ _ | refine Ext.setCell ?_ ?_ _ | refine Ext.trans ?_ (by assumption)))); all_goals (first | (simp; done) | (simp; omega)))) (fun hHeld => ?_)
          iterate 8 (apply SeqH.free; (· (simp only [List.getElem?_toArray, List.getElem?_cons_succ, List.getElem?_cons_zero]; rfl)); (· first | exact Or.inr ⟨by rfl, rfl⟩ | (refine Or.inl ⟨by rfl, ?_⟩; intro w hSw; (try dsimp only at hSw); go_simp; try with_reducible rfl)); try simp only [Act.put, List.setIfInBounds_toArray, List.set_cons_zero, List.set_cons_succ])
          (apply SeqH.step; (· (simp only [List.getElem?_toArray, List.getElem?_cons_succ, List.getElem?_cons_zero]; rfl)); intro K hK; go_simp; refine (HI.out _ (by (with_reducible (repeat' (first | exact Ext.refl _ | assumption | refine Ext.drew ?_ | refine Ext.drewN ?_ _ | refine Ext.alloc ?_ _ | refine Ext.setCell ?_ ?_ _ | refine Ext.trans ?_ (by assumption)))); all_goals (first | (simp; done) | (simp; omega)))).mono ?_; rintro e w9 ⟨rfl, hb9⟩; go_wp2_with fail; refine hK.out _ _ (pr_of (by (with_reducible (repeat' (first | exact Ext.refl _ | assumption | refine Ext.drew ?_ | refine Ext.drewN ?_ _ | refine Ext.alloc ?_ _ | refine Ext.setCell ?_ ?_ _ | refine Ext.trans ?_ (by assumption)))); all_goals (first | (simp; done) | (simp; omega)))) (fun hHeld => ?_); clear hK K; try simp only [Act.put, List.setIfInBounds_toArray, List.set_cons_zero, List.set_cons_succ])
          iterate 1 (apply SeqH.free; (· (simp only [List.getElem?_toArray, List.getElem?_cons_succ, List.getElem?_cons_zero]; rfl)); (· first | exact Or.inr ⟨by rfl, rfl⟩ | (refine Or.inl ⟨by rfl, ?_⟩; intro w hSw; (try dsimp only at hSw); go_simp; try with_reducible rfl)); try simp only [Act.put, List.setIfInBounds_toArray, List.set_cons_zero, List.set_cons_succ])
          refine SeqH.done ?_
          have hx := HX.out.trans hHeld.2
          clear hHeld hb9
          go_wp2
          go_roundw
          case rel => exact ⟨k + 1, hlt, by go_num, HN1.out, (by (with_reducible (repeat' (first | exact Ext.refl _ | assumption | refine Ext.drew ?_ | refine Ext.drewN ?_ _ | refine Ext.alloc ?_ _ | refine Ext.setCell ?_ ?_ _ | refine Ext.trans ?_ (by assumption)))); all_goals (first | (simp; done) | (simp; omega)))⟩
          case measure => simp [intOf]; omega
        · have HF : Hid (decide (l = m) = false) := hide (by simp only [decide_eq_false_iff_not]; intro e; rw [e, E2.out] at E1; exact hxy (Option.some.inj E1.out).symm)
          have hb1 : decide (x = y) = false := by simpa using hxy
          rw [hb1] at HI
          clear hxy hb1
          go_wp2_with fail
          refine seqH_start (S := (fun W => (∀ b o, b < wr.heap.size → W.cell? ⟨b, o, none⟩ = wr.cell? ⟨b, o, none⟩) ∧ Ext wr W)) [(0, true), (1, true), (2, true), (3, true), (4, true), (5, true), (6, true), (7, true), (8, false), (9, true)] (by kernel_rfl) (by kernel_rfl) (by kernel_rfl) (by decide) (fun _ _ d _ _ h => by cases d <;> exact h) (by first | with_reducible exact pr_start _ | exact pr_of (by (with_reducible (repeat' (first | exact Ext.refl _ | assumption | refine Ext.drew ?_ | refine Ext.drewN ?_ _ | refine Ext.alloc ?_ _ | refine Ext.setCell ?_ ?_ _ | refine Ext.trans ?_ (by assumption)))); all_goals (first | (simp; done) | (simp; omega)))) (fun hHeld => ?_)
          iterate 8 (apply SeqH.free; (· (simp only [List.getElem?_toArray, List.getElem?_cons_succ, List.getElem?_cons_zero]; rfl)); (· first | exact Or.inr ⟨by rfl, rfl⟩ | (refine Or.inl ⟨by rfl, ?_⟩; intro w hSw; (try dsimp only at hSw); go_simp; try with_reducible rfl)); try simp only [Act.put, List.setIfInBounds_toArray, List.set_cons_zero, List.set_cons_succ])
          (apply SeqH.step; (· (simp only [List.getElem?_toArray, List.getElem?_cons_succ, List.getElem?_cons_zero]; rfl)); intro K hK; go_simp; refine (HI.out _ (by (with_reducible (repeat' (first | exact Ext.refl _ | assumption | refine Ext.drew ?_ | refine Ext.drewN ?_ _ | refine Ext.alloc ?_ _ | refine Ext.setCell ?_ ?_ _ | refine Ext.trans ?_ (by assumption)))); all_goals (first | (simp; done) | (simp; omega)))).mono ?_; rintro e w9 ⟨rfl, hb9⟩; go_wp2_with fail; refine hK.out _ _ (pr_of (by (with_reducible (repeat' (first | exact Ext.refl _ | assumption | refine Ext.drew ?_ | refine Ext.drewN ?_ _ | refine Ext.alloc ?_ _ | refine Ext.setCell ?_ ?_ _ | refine Ext.trans ?_ (by assumption)))); all_goals (first | (simp; done) | (simp; omega)))) (fun hHeld => ?_); clear hK K; try simp only [Act.put, List.setIfInBounds_toArray, List.set_cons_zero, List.set_cons_succ])
          iterate 1 (apply SeqH.free; (· (simp only [List.getElem?_toArray, List.getElem?_cons_succ, List.getElem?_cons_zero]; rfl)); (· first | exact Or.inr ⟨by rfl, rfl⟩ | (refine Or.inl ⟨by rfl, ?_⟩; intro w hSw; (try dsimp only at hSw); go_simp; try with_reducible rfl)); try simp only [Act.put, List.setIfInBounds_toArray, List.set_cons_zero, List.set_cons_succ])
          refine SeqH.done ?_
          have hx := HX.out.trans hHeld.2
          clear hHeld hb9
          go_wp2
          go_ret
          exact ⟨by rw [HF.out] <;> rfl, (by (with_reducible (repeat' (first | exact Ext.refl _ | assumption | refine Ext.drew ?_ | refine Ext.drewN ?_ _ | refine Ext.alloc ?_ _ | refine Ext.setCell ?_ ?_ _ | refine Ext.trans ?_ (by assumption)))); all_goals (first | (simp; done) | (simp; omega)))⟩
      · obtain rfl : n = k := by omega
        have HF : Hid (decide (l = m) = true) := hide (by
          have h := HT.out
          rw [List.take_of_length_le (by rw [HN.out]; exact Nat.le_refl _), List.take_of_length_le (by rw [← HLM.out, HN.out]; exact Nat.le_refl _)] at h
          simpa using h)
        have hx := HX.out
        go_wp2
        go_ret
        exact ⟨by rw [HF.out] <;> rfl, (by (with_reducible (repeat' (first | exact Ext.refl _ | assumption | refine Ext.drew ?_ | refine Ext.drewN ?_ _ | refine Ext.alloc ?_ _ | refine Ext.setCell ?_ ?_ _ | refine Ext.trans ?_ (by assumption)))); all_goals (first | (simp; done) | (simp; omega)))⟩
  · have HF : Hid (decide (l = m) = false) := hide (by simp only [decide_eq_false_iff_not]; intro e; exact hlen (by rw [e]))
    have hb0 : ((l.length : Int) != (m.length : Int)) = true := by simp; omega
    obtain ⟨n, hn⟩ : ∃ n, l.length = n := ⟨_, rfl⟩
    obtain ⟨n2, hn2⟩ : ∃ n, m.length = n := ⟨_, rfl⟩
    have hb1 : (n != n2) = true := by simp; omega
    rw [hn, hn2] at hb0 ⊢
    clear ha hb hlen hn hn2 hs
    go_enter Try.func30, Try.ntmps30
    go_wp2
    go_ret
    exact ⟨by rw [HF.out] <;> rfl, (by (with_reducible (repeat' (first | exact Ext.refl _ | assumption | refine Ext.drew ?_ | refine Ext.drewN ?_ _ | refine Ext.alloc ?_ _ | refine Ext.setCell ?_ ?_ _ | refine Ext.trans ?_ (by assumption)))); all_goals (first | (simp; done) | (simp; omega)))⟩

set_option maxRecDepth 100000 in
theorem equalRows_any (a b : Option Addr) (l m : List (List Int)) (c d : Nat) (w : World) (hl : l.length ≤ 1000000) (ha : RowsU w a l) (hb : RowsU w b m) (hs : ∀ r, r ∈ l → r.length ≤ 1000000) :
    Calls Try.prog 84 #[.slice a l.length c, .slice b m.length d, .func (.func 85) #[] #[]] w fun e w' => e = .returned (.bool (decide (l = m))) ∧ Ext w w' := by
  by_cases hlen : l.length = m.length
  · have HS := hide hs
    have HA := hide ha
    have HB := hide hb
    have HLM := hide hlen
    obtain ⟨n, hn⟩ : ∃ n, l.length = n := ⟨_, rfl⟩
    have HN := hide hn
    rw [← hlen, hn]
    rw [hn] at hl
    clear ha hb hlen hn hs
    go_enter Try.func84, Try.ntmps84
    go_wp2_with fail
    go_loopw [17] (fun i wr => ∃ k : Nat, k ≤ n ∧ i = .int .i64 k ∧ l.take k = m.take k ∧ Ext w wr) (fun i _ => n - (intOf i).toNat)
    case atStart => exact ⟨0, Nat.zero_le _, rfl, rfl, (by (with_reducible (repeat' (first | exact Ext.refl _ | assumption | refine Ext.drew ?_ | refine Ext.drewN ?_ _ | refine Ext.alloc ?_ _ | refine Ext.setCell ?_ ?_ _ | refine Ext.trans ?_ (by assumption)))); all_goals (first | (simp; done) | (simp; omega)))⟩
    case round =>
      obtain ⟨k, hk, rfl, htk, hx⟩ := hrel
      have HT := hide htk
      have HX := hide hx
      clear htk hx
      by_cases hlt : k < n
      · have h1 : k < l.length := by rw [HN.out]; exact hlt
        have h2 : k < m.length := by rw [← HLM.out]; exact h1
        obtain ⟨ba, oa, rfl, za, ca⟩ := HA.out (by omega)
        obtain ⟨bb, ob, rfl, zb, cb⟩ := HB.out (by omega)
        obtain ⟨sa, sca, c0, r0⟩ := ca k h1
        obtain ⟨sb, scb, c1, r1⟩ := cb k h2
        have d0 := (HX.out.cell (p := ⟨ba, oa + k, none⟩) za).trans c0
        have d1 := (HX.out.cell (p := ⟨bb, ob + k, none⟩) zb).trans c1
        have hl1 := HS.out l[k] (List.getElem_mem h1)
        have z0 : ba < wr.heap.size := Nat.lt_of_lt_of_le za HX.out.size
        have z1 : bb < wr.heap.size := Nat.lt_of_lt_of_le zb HX.out.size
        have jk : (k : Int) < (n : Int) := by omega
        have e1 : l[k]? = some l[k] := List.getElem?_eq_getElem h1
        have e2 : m[k]? = some m[k] := List.getElem?_eq_getElem h2
        obtain ⟨x, hx⟩ : ∃ x, l[k] = x := ⟨_, rfl⟩
        obtain ⟨y, hy⟩ : ∃ y, m[k] = y := ⟨_, rfl⟩
        rw [hx] at d0 e1 r0 hl1
        rw [hy] at d1 e2 r1
        have HI := hide (fun (w' : World) (hx : Ext wr w') => equalU64_any sa sb x y sca scb w' hl1 ((r0.ext HX.out).ext hx) ((r1.ext HX.out).ext hx))
        have E1 := hide e1
        have E2 := hide e2
        clear h1 h2 ca cb hx hy e1 e2 c0 c1 r0 r1 hl1
        by_cases hxy : x = y
        · have HN1 : Hid (l.take (k + 1) = m.take (k + 1)) := hide (by rw [List.take_add_one, List.take_add_one, E1.out, E2.out, HT.out, hxy])
          have hb1 : decide (x = y) = true := by simpa using hxy
          rw [hb1] at HI
          clear hxy hb1
          go_wp2_with fail
          refine (HI.out _ (by (with_reducible (repeat' (first | exact Ext.refl _ | assumption | refine Ext.drew ?_ | refine Ext.drewN ?_ _ | refine Ext.alloc ?_ _ | refine Ext.setCell ?_ ?_ _ | refine Ext.trans ?_ (by assumption)))); all_goals (first | (simp; done) | (simp; omega)))).mono ?_
          rintro e w9 ⟨rfl, hb9⟩
          have hx := HX.out.trans (show Ext wr w9 from (by (with_reducible (repeat' (first | exact Ext.refl _ | assumption | refine Ext.drew ?_ | refine Ext.drewN ?_ _ | refine Ext.alloc ?_ _ | refine Ext.setCell ?_ ?_ _ | refine Ext.trans ?_ (by assumption)))); all_goals (first | (simp; done) | (simp; omega))))
          go_wp2
          go_roundw
          case rel => exact ⟨k + 1, hlt, by go_num, HN1.out, (by (with_reducible (repeat' (first | exact Ext.refl _ | assumption | refine Ext.drew ?_ | refine Ext.drewN ?_ _ | refine Ext.alloc ?_ _ | refine Ext.setCell ?_ ?_ _ | refine Ext.trans ?_ (by assumption)))); all_goals (first | (simp; done) | (simp; omega)))⟩
          case measure => simp [intOf]; omega
        · have HF : Hid (decide (l = m) = false) := hide (by simp only [decide_eq_false_iff_not]; intro e; rw [e, E2.out] at E1; exact hxy (Option.some.inj E1.out).symm)
          have hb1 : decide (x = y) = false := by simpa using hxy
          rw [hb1] at HI
          clear hxy hb1
          go_wp2_with fail
          refine (HI.out _ (by (with_reducible (repeat' (first | exact Ext.refl _ | assumption | refine Ext.drew ?_ | refine Ext.drewN ?_ _ | refine Ext.alloc ?_ _ | refine Ext.setCell ?_ ?_ _ | refine Ext.trans ?_ (by assumption)))); all_goals (first | (simp; done) | (simp; omega)))).mono ?_
          rintro e w9 ⟨rfl, hb9⟩
          have hx := HX.out.trans (show Ext wr w9 from (by (with_reducible (repeat' (first | exact Ext.refl _ | assumption | refine Ext.drew ?_ | refine Ext.drewN ?_ _ | refine Ext.alloc ?_ _ | refine Ext.setCell ?_ ?_ _ | refine Ext.trans ?_ (by assumption)))); all_goals (first | (simp; done) | (simp; omega))))
          go_wp2
          go_ret
          exact ⟨by rw [HF.out] <;> rfl, (by (with_reducible (repeat' (first | exact Ext.refl _ | assumption | refine Ext.drew ?_ | refine Ext.drewN ?_ _ | refine Ext.alloc ?_ _ | refine Ext.setCell ?_ ?_ _ | refine Ext.trans ?_ (by assumption)))); all_goals (first | (simp; done) | (simp; omega)))⟩
      · obtain rfl : n = k := by omega
        have HF : Hid (decide (l = m) = true) := hide (by
          have h := HT.out
          rw [List.take_of_length_le (by rw [HN.out]; exact Nat.le_refl _), List.take_of_length_le (by rw [← HLM.out, HN.out]; exact Nat.le_refl _)] at h
          simpa using h)
        have hx := HX.out
        go_wp2
        go_ret
        exact ⟨by rw [HF.out] <;> rfl, (by (with_reducible (repeat' (first | exact Ext.refl _ | assumption | refine Ext.drew ?_ | refine Ext.drewN ?_ _ | refine Ext.alloc ?_ _ | refine Ext.setCell ?_ ?_ _ | refine Ext.trans ?_ (by assumption)))); all_goals (first | (simp; done) | (simp; omega)))⟩
  · have HF : Hid (decide (l = m) = false) := hide (by simp only [decide_eq_false_iff_not]; intro e; exact hlen (by rw [e]))
    have hb0 : ((l.length : Int) != (m.length : Int)) = true := by simp; omega
    obtain ⟨n, hn⟩ : ∃ n, l.length = n := ⟨_, rfl⟩
    obtain ⟨n2, hn2⟩ : ∃ n, m.length = n := ⟨_, rfl⟩
    have hb1 : (n != n2) = true := by simp; omega
    rw [hn, hn2] at hb0 ⊢
    clear ha hb hlen hn hn2 hs
    go_enter Try.func84, Try.ntmps84
    go_wp2
    go_ret
    exact ⟨by rw [HF.out] <;> rfl, (by (with_reducible (repeat' (first | exact Ext.refl _ | assumption | refine Ext.drew ?_ | refine Ext.drewN ?_ _ | refine Ext.alloc ?_ _ | refine Ext.setCell ?_ ?_ _ | refine Ext.trans ?_ (by assumption)))); all_goals (first | (simp; done) | (simp; omega)))⟩
end Go.Proofs.Ytifbmapianddcaa

/- Walk of Same, of layer 13; the example's numbers. -/
namespace Go.Proofs.Ytifbmapianddcaa
open Go.RowKit

set_option maxRecDepth 100000 in
theorem iSame_any (a b ra rb : Option Addr) (l m : List Cell) (ll mm : List (List Int)) (c d e1 e2 : Nat) (w : World) (hl : l.length ≤ 1000000) (ha : RowC w a l) (hb : RowC w b m) (hll : ll.length ≤ 1000000) (hra : RowsU w ra ll) (hrb : RowsU w rb mm) (hs : ∀ r, r ∈ ll → r.length ≤ 1000000) :
    Calls Try.prog 36 #[.agg #[.slice a l.length c, .slice ra ll.length e1], .agg #[.slice b m.length d, .slice rb mm.length e2]] w fun e w' => e = .returned (.bool (decide (l = m) && decide (ll = mm))) ∧ Ext w w' := by
  have H1 := hide (fun (w' : World) (hx : Ext w w') => equalCell_any a b l m c d w' hl (ha.ext hx) (hb.ext hx))
  have H2 := hide (fun (w' : World) (hx : Ext w w') => equalRows_any ra rb ll mm e1 e2 w' hll (hra.ext hx) (hrb.ext hx) hs)
  generalize decide (l = m) = p at *
  generalize decide (ll = mm) = q at *
  obtain ⟨n1, h1⟩ : ∃ z, l.length = z := ⟨_, rfl⟩
  obtain ⟨n2, h2⟩ : ∃ z, m.length = z := ⟨_, rfl⟩
  obtain ⟨n3, h3⟩ : ∃ z, ll.length = z := ⟨_, rfl⟩
  obtain ⟨n4, h4⟩ : ∃ z, mm.length = z := ⟨_, rfl⟩
  rw [h1, h2] at H1
  rw [h3, h4] at H2
  rw [h1, h2, h3, h4]
  clear ha hb hra hrb hs hl hll h1 h2 h3 h4
  cases p
  · go_enter Try.func36, Try.ntmps36
    go_wp2_with fail
    refine (H1.out _ (by (with_reducible (repeat' (first | exact Ext.refl _ | assumption | refine Ext.drew ?_ | refine Ext.drewN ?_ _ | refine Ext.alloc ?_ _ | refine Ext.setCell ?_ ?_ _ | refine Ext.trans ?_ (by assumption)))); all_goals (first | (simp; done) | (simp; omega)))).mono ?_
    rintro e w1 ⟨rfl, hb1⟩
    go_wp2_with fail
    go_ret
    exact ⟨rfl, (by (with_reducible (repeat' (first | exact Ext.refl _ | assumption | refine Ext.drew ?_ | refine Ext.drewN ?_ _ | refine Ext.alloc ?_ _ | refine Ext.setCell ?_ ?_ _ | refine Ext.trans ?_ (by assumption)))); all_goals (first | (simp; done) | (simp; omega)))⟩
  · go_enter Try.func36, Try.ntmps36
    go_wp2_with fail
    refine (H1.out _ (by (with_reducible (repeat' (first | exact Ext.refl _ | assumption | refine Ext.drew ?_ | refine Ext.drewN ?_ _ | refine Ext.alloc ?_ _ | refine Ext.setCell ?_ ?_ _ | refine Ext.trans ?_ (by assumption)))); all_goals (first | (simp; done) | (simp; omega)))).mono ?_
    rintro e w1 ⟨rfl, hb1⟩
    obtain ⟨hc1, hf1⟩ := hb1.cells; have hz1 := hb1.size; (repeat (first | rw [World.size_alloc] at hz1 | rw [World.size_drew] at hz1)); have z1_0 : w.heap.size < w1.heap.size := (by omega); have z1_1 : w.heap.size + 1 < w1.heap.size := (by omega)
    go_wp2_with fail
    refine (H2.out _ (by (with_reducible (repeat' (first | exact Ext.refl _ | assumption | refine Ext.drew ?_ | refine Ext.drewN ?_ _ | refine Ext.alloc ?_ _ | refine Ext.setCell ?_ ?_ _ | refine Ext.trans ?_ (by assumption)))); all_goals (first | (simp; done) | (simp; omega)))).mono ?_
    rintro e w2 ⟨rfl, hb2⟩
    go_wp2_with fail
    go_ret
    exact ⟨by cases q <;> rfl, (by (with_reducible (repeat' (first | exact Ext.refl _ | assumption | refine Ext.drew ?_ | refine Ext.drewN ?_ _ | refine Ext.alloc ?_ _ | refine Ext.setCell ?_ ?_ _ | refine Ext.trans ?_ (by assumption)))); all_goals (first | (simp; done) | (simp; omega)))⟩

def awI : List Int := [1, 5, 1, 1, 1, 1, 1, 1]
theorem awI_u16 : U16s awI := by intro x hx; simp [awI] at hx; omega
theorem awI_box : boxL 4 2 2 0 awI := boxL_of (by decide) (by decide) ⟨by decide, by decide⟩ awI_u16
def awIN : Net := mapNet (W := 4) (H := 2) (l := awI) awI_box
def tabF (t : List Int) (v : Nat) : Int := t.getD v infI
def tabOk (s : Nat) (t : List Int) : Bool :=
  decide (t.length = 8) && decide (tabF t s = 0) && (List.range 8).all (fun v => (awIN.op v || decide (tabF t v = infI)) && decide (0 ≤ tabF t v) && decide (tabF t v ≤ infI) &&
    (!awIN.op v || decide (v = s) || ((awIN.adj v).all (fun u => !awIN.op u || decide (infI ≤ tabF t u + awIN.cost v) || decide (tabF t v ≤ tabF t u + awIN.cost v)) && (decide (infI ≤ tabF t v) || (awIN.adj v).any (fun u => awIN.op u && decide (tabF t u + awIN.cost v = tabF t v))))))
theorem tab_far {s : Nat} {t : List Int} (h : tabOk s t = true) : IsFar awIN s (tabF t) := by
  unfold tabOk at h
  simp only [Bool.and_eq_true, decide_eq_true_eq, List.all_eq_true, List.mem_range] at h
  obtain ⟨⟨h8, h0⟩, ha⟩ := h
  have hbig : ∀ v, 8 ≤ v → tabF t v = infI := fun v hv => by
    unfold tabF
    rw [List.getD_eq_getElem?_getD, List.getElem?_eq_none (by omega)]
    rfl
  have hlt : ∀ v, awIN.op v = true → v < 8 := fun v hv => awIN.lt v hv
  refine ⟨fun _ => h0, ?_, ?_, ?_, ?_, ?_⟩
  · intro v hv
    by_cases h : v < 8
    · have := (ha v h).1.1.1
      rw [hv] at this
      simpa using this
    · exact hbig v (by omega)
  · intro v
    by_cases h : v < 8
    · exact (ha v h).1.1.2
    · rw [hbig v (by omega)]; decide
  · intro v
    by_cases h : v < 8
    · exact (ha v h).1.2
    · rw [hbig v (by omega)]; exact Int.le_refl _
  · intro v hv hs u hu huo hl
    have h1 := (ha v (hlt v hv)).2
    rw [hv] at h1
    simp only [Bool.not_true, Bool.false_or, Bool.or_eq_true, decide_eq_true_eq, Bool.and_eq_true, List.all_eq_true] at h1
    rcases h1 with h1 | h1
    · exact absurd h1 hs
    · rcases h1.1 u hu with (h2 | h2) | h2
      · rw [huo] at h2; cases h2
      · omega
      · exact h2
  · intro v hv hs hl
    have h1 := (ha v (hlt v hv)).2
    rw [hv] at h1
    simp only [Bool.not_true, Bool.false_or, Bool.or_eq_true, decide_eq_true_eq, Bool.and_eq_true, List.any_eq_true] at h1
    rcases h1 with h1 | h1
    · exact absurd h1 hs
    · rcases h1.2 with h2 | ⟨u, u1, u2, u3⟩
      · omega
      · exact ⟨u, u1, u2, u3⟩
theorem tab_row {c : Cell} {t : List Int} (h : tabOk (idxN 4 c) t = true) (q : Cell) : farD (W := 4) (H := 2) (l := awI) awI_box c (idxN 4 q) = tabF t (idxN 4 q) := (farD_one (W := 4) (H := 2) (l := awI) awI_box (tab_far h) _).symm
def big : Int := 18446744073709551615
theorem tab0 : tabOk 0 [0, 5, big, big, 1, 2, big, big] = true := by decide +kernel
theorem tab1 : tabOk 1 [1, 0, big, big, 2, 1, big, big] = true := by decide +kernel
theorem tab4 : tabOk 4 [1, 6, big, big, 0, 1, big, big] = true := by decide +kernel
theorem tab5 : tabOk 5 [2, 5, big, big, 1, 0, big, big] = true := by decide +kernel
def awC : List Cell := [(0, 0), (1, 0), (1, 1)]
theorem aw_rows : awC.map (rowD (W := 4) (H := 2) (l := awI) awI_box awC) = [[0, 5, 2], [1, 0, 1], [2, 5, 0]] := by
  have h0 := tab_row (c := (0, 0)) tab0
  have h1 := tab_row (c := (1, 0)) tab1
  have h5 := tab_row (c := (1, 1)) tab5
  simp only [awC, List.map_cons, List.map_nil, rowD, h0, h1, h5]
  decide
theorem aw_to : rowD (W := 4) (H := 2) (l := awI) awI_box awC (0, 1) = [1, 6, 1] := by
  have h4 := tab_row (c := (0, 1)) tab4
  simp only [awC, List.map_cons, List.map_nil, rowD, h4]
  decide
theorem aw_back : awC.map (fun q => farD (W := 4) (H := 2) (l := awI) awI_box q (idxN 4 (0, 1))) = [1, 2, 1] := by
  have h0 := tab_row (c := (0, 0)) tab0
  have h1 := tab_row (c := (1, 0)) tab1
  have h5 := tab_row (c := (1, 1)) tab5
  simp only [awC, List.map_cons, List.map_nil, h0, h1, h5]
  decide
theorem aw_inner : innerE 4 2 awI.length 4 2 2 0 awC = 0 := by decide
theorem aw_toE : toE 4 2 awI.length 4 2 2 0 awC (0, 1) = 0 := by decide
end Go.Proofs.Ytifbmapianddcaa

/- The example of chapter 13. -/
namespace Go.Proofs.Ytifbmapianddcaa
open Go.RowKit

theorem rowsU_of {w : World} {base : Nat} {v : Value} {ll : List (List Int)} (h : RowsAt w base v ll) : ∃ a c, v = .slice a ll.length c ∧ RowsU w a ll := by
  obtain ⟨ss, h1, h2, h3⟩ := h
  obtain ⟨a, c, hv⟩ := h1.slice
  subst hv
  refine ⟨a, c, by rw [h2], fun h0 => ?_⟩
  rcases h1.2 with ⟨_, hz⟩ | ⟨g, cap, cur, hv, _⟩
  · omega
  · injection hv with ha hb hc
    subst ha
    have hrd := Reads.cells h1.reads
    refine ⟨g, 0, rfl, hrd.1, fun k hk => ?_⟩
    have hks : k < ss.length := by omega
    have hown := h3 k ss[k] ll[k] (List.getElem?_eq_getElem hks) (List.getElem?_eq_getElem hk)
    have hcell := hrd.2.2 k ss[k] (List.getElem?_eq_getElem hks) 0 (.slice ss[k].1 ss[k].2.1 ss[k].2.2) rfl
    have hru := Reads.rowU hown.reads
    refine ⟨ss[k].1, ss[k].2.2, ?_, hru.2⟩
    rw [← hru.1]
    simpa [sliceE] using hcell
theorem RowsAt.u {w : World} {base n c : Nat} {a : Option Addr} {ll : List (List Int)} (h : RowsAt w base (.slice a n c) ll) : RowsU w a ll := by
  obtain ⟨x, y, e, h2⟩ := rowsU_of h
  cases e
  exact h2

theorem row8 {w : World} {b : Nat} {a0 a1 a2 a3 a4 a5 a6 a7 : Int} (h : Blk w b 46 #[.int .u16 a0, .int .u16 a1, .int .u16 a2, .int .u16 a3, .int .u16 a4, .int .u16 a5, .int .u16 a6, .int .u16 a7]) : Row16 w (some ⟨b, 0, none⟩) [a0, a1, a2, a3, a4, a5, a6, a7] := fun _ => by
  refine ⟨b, 0, rfl, h.lt, fun k hk => ?_⟩
  have hk6 : k < 8 := hk
  obtain rfl | rfl | rfl | rfl | rfl | rfl | rfl | rfl : k = 0 ∨ k = 1 ∨ k = 2 ∨ k = 3 ∨ k = 4 ∨ k = 5 ∨ k = 6 ∨ k = 7 := by omega
  · exact h.at 0 rfl
  · exact h.at 1 rfl
  · exact h.at 2 rfl
  · exact h.at 3 rfl
  · exact h.at 4 rfl
  · exact h.at 5 rfl
  · exact h.at 6 rfl
  · exact h.at 7 rfl
theorem rowc3 {w : World} {b : Nat} {a0 a1 a2 b0 b1 b2 : Int} (h : Blk w b 28 #[.int .i64 a0, .int .i64 b0, .int .i64 a1, .int .i64 b1, .int .i64 a2, .int .i64 b2]) : RowC w (some ⟨b, 0, none⟩) [(a0, b0), (a1, b1), (a2, b2)] := fun _ => by
  refine ⟨b, 0, rfl, h.lt, fun k hk => ?_⟩
  have hk6 : k < 3 := hk
  obtain rfl | rfl | rfl : k = 0 ∨ k = 1 ∨ k = 2 := by omega
  · exact ⟨h.at 0 rfl, h.at 1 rfl⟩
  · exact ⟨h.at 2 rfl, h.at 3 rfl⟩
  · exact ⟨h.at 4 rfl, h.at 5 rfl⟩
theorem rowu3 {w : World} {b : Nat} {a0 a1 a2 : Int} (h : Blk w b 38 #[.int .u64 a0, .int .u64 a1, .int .u64 a2]) : RowU w (some ⟨b, 0, none⟩) [a0, a1, a2] := fun _ => by
  refine ⟨b, 0, rfl, h.lt, fun k hk => ?_⟩
  have hk6 : k < 3 := hk
  obtain rfl | rfl | rfl : k = 0 ∨ k = 1 ∨ k = 2 := by omega
  · exact h.at 0 rfl
  · exact h.at 1 rfl
  · exact h.at 2 rfl
theorem rowsu3 {w : World} {b b0 b1 b2 : Nat} {x y z : List Int} (hx : x.length = 3) (hy : y.length = 3) (hz : z.length = 3) (h : Blk w b 33 #[.slice (some ⟨b0, 0, none⟩) 3 3, .slice (some ⟨b1, 0, none⟩) 3 3, .slice (some ⟨b2, 0, none⟩) 3 3]) (h0 : RowU w (some ⟨b0, 0, none⟩) x) (h1 : RowU w (some ⟨b1, 0, none⟩) y) (h2 : RowU w (some ⟨b2, 0, none⟩) z) : RowsU w (some ⟨b, 0, none⟩) [x, y, z] := fun _ => by
  refine ⟨b, 0, rfl, h.lt, fun k hk => ?_⟩
  have hk6 : k < 3 := hk
  obtain rfl | rfl | rfl : k = 0 ∨ k = 1 ∨ k = 2 := by omega
  · exact ⟨_, 3, by simp only [List.getElem_cons_zero, hx]; exact h.at 0 rfl, h0⟩
  · exact ⟨_, 3, by simp only [List.getElem_cons_succ, List.getElem_cons_zero, hy]; exact h.at 1 rfl, h1⟩
  · exact ⟨_, 3, by simp only [List.getElem_cons_succ, List.getElem_cons_zero, hz]; exact h.at 2 rfl, h2⟩
theorem awC_in : ∀ p ∈ awC, InI p.1 ∧ InI p.2 := by
  intro p hp
  simp only [awC, List.mem_cons, List.not_mem_nil, or_false] at hp
  rcases hp with rfl | rfl | rfl <;> (unfold InI; decide)

set_option maxRecDepth 100000 in
set_option maxHeartbeats 1000000 in
theorem awake13_any (w : World) : Calls Try.prog 24 #[] w fun e w' => e = .returned (.bool true) ∧ Ext w w' := by
  have HO := hide (fun (w' : World) (rb cb : Nat) (h1 : Row16 w' (some ⟨rb, 0, none⟩) awI) (h2 : RowC w' (some ⟨cb, 0, none⟩) awC) => iOf_ok (w := w') (W := 4) (H := 2) (l := awI) 8 (PW := 4) (PH := 2) (s := 2) (id := 0) (cs := awC) 3 h1 awI_u16 h2 (by decide) awC_in aw_inner awI_box)
  have HT := hide (fun (w' : World) (rb : Nat) (ca ra : Option Addr) (cc rc : Nat) (h1 : Row16 w' (some ⟨rb, 0, none⟩) awI) (h2 : RowC w' ca awC) => iTo_ok (w := w') (W := 4) (H := 2) (l := awI) 8 (PW := 4) (PH := 2) (s := 2) (id := 0) (cs := awC) cc ra 3 rc (p := (0, 1)) h1 h2 (by decide) awC_in aw_toE awI_box)
  have HB := hide (fun (w' : World) (rb : Nat) (ca ra : Option Addr) (cc rc : Nat) (h1 : Row16 w' (some ⟨rb, 0, none⟩) awI) (h2 : RowC w' ca awC) => iBack_ok (w := w') (W := 4) (H := 2) (l := awI) 8 (PW := 4) (PH := 2) (s := 2) (id := 0) (cs := awC) cc ra 3 rc (p := (0, 1)) h1 h2 (by decide) awC_in aw_toE awI_box)
  rw [aw_rows] at HO
  rw [aw_to] at HT
  rw [aw_back] at HB
  go_enter Try.func24, Try.ntmps24
  go_wp2_with fail
  obtain ⟨w0, hw0⟩ : ∃ w0, w0 = (((w.alloc (.cells #[.int .u16 1, .int .u16 5, .int .u16 1, .int .u16 1, .int .u16 1, .int .u16 1, .int .u16 1, .int .u16 1] 46)).alloc (.cells #[.int .i64 4, .int .i64 2, .slice (some ⟨w.heap.size, 0, none⟩) 8 8] 26)).alloc (.cells #[.int .i64 4, .int .i64 2, .int .i64 2] 51)).alloc (.cells #[.int .i64 0, .int .i64 0, .int .i64 1, .int .i64 0, .int .i64 1, .int .i64 1] 28) := ⟨_, rfl⟩
  have hx0 : Ext w w0 := by rw [hw0]; exact (by (with_reducible (repeat' (first | exact Ext.refl _ | assumption | refine Ext.drew ?_ | refine Ext.drewN ?_ _ | refine Ext.alloc ?_ _ | refine Ext.setCell ?_ ?_ _ | refine Ext.trans ?_ (by assumption)))); all_goals (first | (simp; done) | (simp; omega)))
  have R0 := hide (show Blk w0 w.heap.size 46 #[.int .u16 1, .int .u16 5, .int .u16 1, .int .u16 1, .int .u16 1, .int .u16 1, .int .u16 1, .int .u16 1] by rw [hw0]; exact (Blk.new_ rfl).over.over.over)
  have F0 := hide (show Blk w0 (w.heap.size + 1) 26 #[.int .i64 4, .int .i64 2, .slice (some ⟨w.heap.size, 0, none⟩) 8 8] by rw [hw0]; exact (Blk.new_ (by simp)).over.over)
  have P0 := hide (show Blk w0 (w.heap.size + 2) 51 #[.int .i64 4, .int .i64 2, .int .i64 2] by rw [hw0]; exact (Blk.new_ (by simp)).over)
  have C0 := hide (show Blk w0 (w.heap.size + 3) 28 #[.int .i64 0, .int .i64 0, .int .i64 1, .int .i64 0, .int .i64 1, .int .i64 1] by rw [hw0]; exact Blk.new_ (by simp))
  rw [← hw0]
  clear hw0
  refine (HO.out w0 _ (w.heap.size + 3) (row8 R0.out) (rowc3 C0.out)).mono ?_
  rintro e w1 ⟨v1, v2, rfl, hx1, ho1, hr1⟩
  obtain ⟨ca, cc, hv1⟩ : ∃ a c, v1 = .slice a 3 c := ho1.slice
  subst hv1
  obtain ⟨ra, rc, hv2, hru⟩ := rowsU_of hr1
  subst hv2
  have R1 := hide (Blk.ext R0.out hx1)
  have F1 := hide (Blk.ext F0.out hx1)
  have P1 := hide (Blk.ext P0.out hx1)
  have C1 := hide ho1.reads.rowC.2
  have U1 := hide hru
  have X1 := hide (hx0.trans hx1)
  have f0 := F1.out.at 0 rfl; have f1 := F1.out.at 1 rfl; have f2 := F1.out.at 2 rfl; have fz := F1.out.lt
  have p0 := P1.out.at 0 rfl; have p1 := P1.out.at 1 rfl; have p2 := P1.out.at 2 rfl; have pz := P1.out.lt
  clear hx0 hx1 ho1 hr1 hru R0 F0 P0 C0
  simp only [List.length_cons, List.length_nil, Nat.zero_add, Nat.reduceAdd]
  go_wp2_with fail
  obtain ⟨w2, hw2⟩ : ∃ w2, w2 = w1.alloc (.cells #[.slice ca 3 cc, .slice ra 3 rc] 57) := ⟨_, rfl⟩
  have hx2 : Ext w1 w2 := by rw [hw2]; exact (Ext.refl _).alloc _
  have T2 := hide (show Blk w2 w1.heap.size 57 #[.slice ca 3 cc, .slice ra 3 rc] by rw [hw2]; exact Blk.new_ rfl)
  have R2 := hide (Blk.ext R1.out hx2)
  have F2 := hide (Blk.ext F1.out hx2)
  have P2 := hide (Blk.ext P1.out hx2)
  have C2 := hide (C1.out.ext hx2)
  have U2 := hide (U1.out.ext hx2)
  have X2 := hide (X1.out.trans hx2)
  rw [← hw2]
  obtain ⟨tb, htb⟩ : ∃ z, w1.heap.size = z := ⟨_, rfl⟩
  rw [htb] at T2 ⊢
  clear hw2 hx2 htb f0 f1 f2 fz p0 p1 p2 pz R1 F1 P1 C1 U1 X1
  refine (HT.out w2 _ ca ra cc rc (row8 R2.out) C2.out).mono ?_
  rintro e w3 ⟨sv, rfl, hx3, ho3⟩
  have R3 := hide (Blk.ext R2.out hx3)
  have F3 := hide (Blk.ext F2.out hx3)
  have P3 := hide (Blk.ext P2.out hx3)
  have T3 := hide (Blk.ext T2.out hx3)
  have C3 := hide (C2.out.ext hx3)
  have U3 := hide (U2.out.ext hx3)
  have X3 := hide (X2.out.trans hx3)
  obtain ⟨s1, s2, s3⟩ := sv
  simp only at ho3 ⊢
  have A3 := hide ho3.reads.rowU
  have f0 := F3.out.at 0 rfl; have f1 := F3.out.at 1 rfl; have f2 := F3.out.at 2 rfl; have fz := F3.out.lt
  have p0 := P3.out.at 0 rfl; have p1 := P3.out.at 1 rfl; have p2 := P3.out.at 2 rfl; have pz := P3.out.lt
  have t0 := T3.out.at 0 rfl; have t1 := T3.out.at 1 rfl; have tz := T3.out.lt
  clear hx3 ho3 R2 F2 P2 C2 U2 X2 T2
  go_wp2_with fail
  refine (HB.out w3 _ ca ra cc rc (row8 R3.out) C3.out).mono ?_
  rintro e w4 ⟨v4, rfl, hx4, ho4⟩
  obtain ⟨ba, bc, hv4⟩ : ∃ a c, v4 = .slice a 3 c := ho4.slice
  subst hv4
  have T4 := hide (Blk.ext T3.out hx4)
  have U4 := hide (U3.out.ext hx4)
  have X4 := hide (X3.out.trans hx4)
  have A4 := hide (A3.out.2.ext hx4)
  have hs2 : s2 = 3 := A3.out.1
  subst hs2
  have B4 := hide ho4.reads.rowU.2
  clear hx4 ho4 R3 F3 P3 C3 U3 X3 T3 A3 f0 f1 f2 fz p0 p1 p2 pz t0 t1 tz
  have t0 := T4.out.at 0 rfl; have t1 := T4.out.at 1 rfl; have tz := T4.out.lt
  go_wp2_with fail
  obtain ⟨w5, hw5⟩ : ∃ w5, w5 = (((w4.alloc (.cells #[.int .u64 0, .int .u64 5, .int .u64 2] 38)).alloc (.cells #[.int .u64 1, .int .u64 0, .int .u64 1] 38)).alloc (.cells #[.int .u64 2, .int .u64 5, .int .u64 0] 38)).alloc (.cells #[.slice (some ⟨w4.heap.size, 0, none⟩) 3 3, .slice (some ⟨w4.heap.size + 1, 0, none⟩) 3 3, .slice (some ⟨w4.heap.size + 1 + 1, 0, none⟩) 3 3] 33) := ⟨_, rfl⟩
  have hx5 : Ext w4 w5 := by rw [hw5]; exact (by (with_reducible (repeat' (first | exact Ext.refl _ | assumption | refine Ext.drew ?_ | refine Ext.drewN ?_ _ | refine Ext.alloc ?_ _ | refine Ext.setCell ?_ ?_ _ | refine Ext.trans ?_ (by assumption)))); all_goals (first | (simp; done) | (simp; omega)))
  have b0 : Blk w5 w4.heap.size 38 #[.int .u64 0, .int .u64 5, .int .u64 2] := by rw [hw5]; exact (Blk.new_ rfl).over.over.over
  have b1 : Blk w5 (w4.heap.size + 1) 38 #[.int .u64 1, .int .u64 0, .int .u64 1] := by rw [hw5]; exact (Blk.new_ (by simp)).over.over
  have b2 : Blk w5 (w4.heap.size + 1 + 1) 38 #[.int .u64 2, .int .u64 5, .int .u64 0] := by rw [hw5]; exact (Blk.new_ (by simp)).over
  have b3 : Blk w5 (w4.heap.size + 1 + 1 + 1) 33 #[.slice (some ⟨w4.heap.size, 0, none⟩) 3 3, .slice (some ⟨w4.heap.size + 1, 0, none⟩) 3 3, .slice (some ⟨w4.heap.size + 1 + 1, 0, none⟩) 3 3] := by rw [hw5]; exact Blk.new_ (by simp)
  have HR5 := hide (rowsu3 rfl rfl rfl b3 (rowu3 b0) (rowu3 b1) (rowu3 b2))
  have U5 := hide (U4.out.ext hx5)
  have X5 := hide (X4.out.trans hx5)
  have A5 := hide (A4.out.ext hx5)
  have B5 := hide (B4.out.ext hx5)
  rw [← hw5]
  clear hw5 hx5 b0 b1 b2 b3 t0 t1 tz T4 U4 X4 A4 B4
  refine (rows13_any ra (some ⟨w4.heap.size + 1 + 1 + 1, 0, none⟩) [[0, 5, 2], [1, 0, 1], [2, 5, 0]] [[0, 5, 2], [1, 0, 1], [2, 5, 0]] rc 3 w5 (by decide) U5.out HR5.out (by (intro r hr; simp only [List.mem_cons, List.not_mem_nil, or_false] at hr; rcases hr with rfl | rfl | rfl <;> decide))).mono ?_
  rintro e w6 ⟨rfl, hx6⟩
  have A6 := hide (A5.out.ext hx6)
  have B6 := hide (B5.out.ext hx6)
  have X6 := hide (X5.out.trans hx6)
  clear hx6 A5 B5 X5 U5 HR5
  simp only [decide_true]
  go_wp2_with fail
  refine (same13_any s1 (some ⟨w6.heap.size, 0, none⟩) [1, 6, 1] [1, 6, 1] s3 3 _ (by decide) (A6.out.ext ((Ext.refl _).alloc _)) (rowu3 (Blk.new_ rfl))).mono ?_
  rintro e w7 ⟨rfl, hx7⟩
  have hx67 : Ext w6 w7 := (by (with_reducible (repeat' (first | exact Ext.refl _ | assumption | refine Ext.drew ?_ | refine Ext.drewN ?_ _ | refine Ext.alloc ?_ _ | refine Ext.setCell ?_ ?_ _ | refine Ext.trans ?_ (by assumption)))); all_goals (first | (simp; done) | (simp; omega)))
  have B7 := hide (B6.out.ext hx67)
  have X7 := hide (X6.out.trans hx67)
  clear hx7 hx67 A6 B6 X6
  simp only [decide_true]
  go_wp2_with fail
  refine (same13_any ba (some ⟨w7.heap.size, 0, none⟩) [1, 2, 1] [1, 2, 1] bc 3 _ (by decide) (B7.out.ext ((Ext.refl _).alloc _)) (rowu3 (Blk.new_ rfl))).mono ?_
  rintro e w8 ⟨rfl, hx8⟩
  have hx78 : Ext w7 w8 := (by (with_reducible (repeat' (first | exact Ext.refl _ | assumption | refine Ext.drew ?_ | refine Ext.drewN ?_ _ | refine Ext.alloc ?_ _ | refine Ext.setCell ?_ ?_ _ | refine Ext.trans ?_ (by assumption)))); all_goals (first | (simp; done) | (simp; omega)))
  have X8 := hide (X7.out.trans hx78)
  clear hx8 hx78 B7 X7
  simp only [decide_true]
  go_wp2_with fail
  go_ret
  exact ⟨rfl, X8.out⟩
end Go.Proofs.Ytifbmapianddcaa

/- A region that draws its order, walked along a tree of orders: what may be taken first is taken first; where several acts may come up, each of them. -/
namespace Go.Proofs.Ytifbmapianddcaa
open Go.RowKit

inductive Ord where
  | done : Ord
  | take : Nat → Ord → Ord
  | step : Nat → Ord → Ord → Ord
  | shut : Ord

/-- The acts that come up here. -/
def Ord.chain : Ord → List Nat
  | .step i _ o => i :: o.chain
  | _ => []

def Ord.depth : Ord → Nat
  | .take _ r => r.depth + 1
  | .step _ r o => max (r.depth + 1) o.depth
  | _ => 0

def okTree (md : Region.Mode) (ops : Array Oper) : Bool → Ord → Array Bool → Bool
  | _, .done, listed => (Region.ready md ops listed).isEmpty
  | _, .take i r, listed => (Region.ready md ops listed).contains i && Region.free md ops listed i && okTree md ops true r (listed.setIfInBounds i true)
  | top, .step i r o, listed => (!top || Region.ready md ops listed == i :: o.chain) && okTree md ops true r (listed.setIfInBounds i true) && okTree md ops false o listed
  | top, .shut, _ => !top

def SeqT (P : Program) (ops : Array Oper) (Q : Exit → Act → World → Prop) (S : World → Prop) : Ord → Act → World → Prop
  | .done, a, w => Q .normal a w
  | .take i r, a, w => ∃ oi v, ops[i]? = some oi ∧ YieldsIf P ops S oi v a ∧ SeqT P ops Q S r (a.put oi.dst v) w
  | .step i r o, a, w => (∃ oi, ops[i]? = some oi ∧ ∀ K' : Act → World → Prop, Shut (∀ a w, S w → (S w → SeqT P ops Q S r a w) → K' a w) → if Region.wanted oi (yielded ops a.tmps) = true then Oper.wp P oi a w K' Q else K' (a.put oi.dst undef) w) ∧ SeqT P ops Q S o a w
  | .shut, _, _ => True

section
variable {P : Program} {ops : Array Oper} {Q : Exit → Act → World → Prop} {S : World → Prop}

theorem SeqT.free {i : Nat} {r : Ord} {oi : Oper} {v : Value} {a : Act} {w : World} (hi : ops[i]? = some oi) (hy : YieldsIf P ops S oi v a) (h : SeqT P ops Q S r (a.put oi.dst v) w) : SeqT P ops Q S (.take i r) a w := ⟨oi, v, hi, hy, h⟩
theorem SeqT.step {i : Nat} {r o : Ord} {oi : Oper} {a : Act} {w : World} (hi : ops[i]? = some oi) (h : ∀ K' : Act → World → Prop, Shut (∀ a w, S w → (S w → SeqT P ops Q S r a w) → K' a w) → if Region.wanted oi (yielded ops a.tmps) = true then Oper.wp P oi a w K' Q else K' (a.put oi.dst undef) w) (ho : SeqT P ops Q S o a w) : SeqT P ops Q S (.step i r o) a w := ⟨⟨oi, hi, h⟩, ho⟩
theorem SeqT.last {i : Nat} {r : Ord} {oi : Oper} {a : Act} {w : World} (hi : ops[i]? = some oi) (h : ∀ K' : Act → World → Prop, Shut (∀ a w, S w → (S w → SeqT P ops Q S r a w) → K' a w) → if Region.wanted oi (yielded ops a.tmps) = true then Oper.wp P oi a w K' Q else K' (a.put oi.dst undef) w) : SeqT P ops Q S (.step i r .shut) a w := ⟨⟨oi, hi, h⟩, trivial⟩
theorem SeqT.fin {a : Act} {w : World} (h : Q .normal a w) : SeqT P ops Q S .done a w := h

theorem SeqT.any {md : Region.Mode} (hs : Region.noSelect ops = true) (hQ : ∀ c a d v w, Q (.panic c) (a.put d v) w → Q (.panic c) a w) : ∀ (r : Ord) (top : Bool) (fuel : Nat) (listed : Array Bool) (a : Act) (w : World), okTree md ops top r listed = true → S w → SeqT P ops Q S r a w →
    (top = true → r.depth ≤ fuel → wpAnyH P md ops Q S fuel listed a w) ∧ (top = false → r.depth ≤ fuel + 1 → AllReadyH P md ops Q S fuel listed a w r.chain)
  | .done, top, fuel, listed, a, w, hk, _, h => ⟨fun _ _ => wpAnyH_done (by unfold okTree at hk; exact List.isEmpty_iff.1 hk) h fuel, fun _ _ => AllReadyH.nil⟩
  | .shut, top, fuel, listed, a, w, hk, _, _ => ⟨fun ht _ => (by subst ht; unfold okTree at hk; cases hk), fun _ _ => AllReadyH.nil⟩
  | .take i r, top, fuel, listed, a, w, hk, hS, h => by
    refine ⟨fun _ hd => ?_, fun _ _ => AllReadyH.nil⟩
    unfold okTree at hk
    simp only [Bool.and_eq_true] at hk
    obtain ⟨oi, v, hi, hy, h⟩ := h
    cases fuel with
    | zero => exact absurd hd (by simp [Ord.depth])
    | succ fuel => exact wpAnyH_take hi hs hk.1.2 hk.1.1 (fun c a w => hQ c a _ _ w) hy hS ((SeqT.any hs hQ r true fuel _ _ w hk.2 hS h).1 rfl (by simpa [Ord.depth] using hd))
  | .step i r o, top, fuel, listed, a, w, hk, hS, h => by
    unfold okTree at hk
    simp only [Bool.and_eq_true] at hk
    obtain ⟨⟨oi, hi, h⟩, ho⟩ := h
    have key : ∀ f, max (r.depth + 1) o.depth ≤ f + 1 → AllReadyH P md ops Q S f listed a w (i :: o.chain) := fun f hd =>
      AllReadyH.cons hi (fun K hK => h K (fun a' w' hS' hseq => hK.out a' w' hS' (fun _ => (SeqT.any hs hQ r true f _ a' w' hk.1.2 hS' (hseq hS')).1 rfl (by omega)))) ((SeqT.any hs hQ o false f listed a w hk.2 hS ho).2 rfl (by omega))
    refine ⟨fun ht hd => ?_, fun _ hd => key fuel hd⟩
    subst ht
    have hr := hk.1.1
    simp only [Bool.not_true, Bool.false_or, beq_iff_eq] at hr
    cases fuel with
    | zero => exact absurd hd (by simp only [Ord.depth]; omega)
    | succ fuel => exact wpAnyH_ready hr (by simp) (key fuel hd)

/-- The world behind an alloc, named. -/
theorem SeqT.named {r : Ord} {a : Act} {X : World} {cs : Array Value} {t : TypeId} (h : ∀ w7, Blk w7 X.heap.size t cs → Ext X w7 → w7.heap.size = X.heap.size + 1 → S w7 → SeqT P ops Q S r a w7) (hS : S (X.alloc (.cells cs t))) : SeqT P ops Q S r a (X.alloc (.cells cs t)) :=
  h _ (Blk.new _ _ _) ((Ext.refl _).alloc _) (by simp) hS

theorem SeqT.namedD {r : Ord} {a : Act} {X : World} {cs : Array Value} {t : TypeId} (h : ∀ w7, Blk w7 X.heap.size t cs → Ext X w7 → w7.heap.size = X.heap.size + 1 → S w7 → SeqT P ops Q S r a w7) (hS : S (X.alloc (.cells cs t)).drew) : SeqT P ops Q S r a (X.alloc (.cells cs t)).drew :=
  h _ (Blk.new _ _ _).drew (((Ext.refl _).alloc _).drew) (by simp) hS

/-- The beginning. -/
theorem seqT_start {id : Nat} {a : Act} {w : World} (r : Ord) (hm : P.follows .mixedOrders = true) (hs : Region.noSelect ops = true) (hk : okTree .any ops true r (Array.replicate ops.size false) = true) (hl : (r.depth ≤ ops.size : Prop))
    (hQ : ∀ c a d v w, Q (.panic c) (a.put d v) w → Q (.panic c) a w) (hS : S w.drew) (h : S w.drew → SeqT P ops Q S r a w.drew) : (Code.region id ops true).wp P Q a w :=
  wp_region_held_drew hm hS (fun hS' => (SeqT.any hs hQ r true _ _ _ _ hk hS' (h hS')).1 rfl hl)
end
end Go.Proofs.Ytifbmapianddcaa

/- The walk of InnerTo: what is far, and what is wrong. -/
namespace Go.Proofs.Ytifbmapianddcaa
open Go.RowKit

set_option maxRecDepth 100000 in
theorem it_far {w : World} (W H : Int) (a : Option Addr) (n c : Nat) (PW PH s id : Int) (ca : Option Addr) (m cc : Nat) (tx ty : Int) (h : (decide (n ≤ 260) && decide (m ≤ 60)) = false) :
    Calls Try.prog 6 #[.agg #[.int .i64 W, .int .i64 H, .slice a n c], .agg #[.int .i64 PW, .int .i64 PH, .int .i64 s], .agg #[.int .i64 id, .slice ca m cc, .int .i64 tx, .int .i64 ty]] w fun e w' => e = .returned (.bool true) ∧ Ext w w' := by
  have HS := hide (fun w' => small13_any W H a n c id ca m cc tx ty w')
  rw [h] at HS
  clear h
  go_enter Try.func6, Try.ntmps6
  go_wp2_with fail
  refine (HS.out _).mono ?_
  rintro e w1 ⟨rfl, hb1⟩
  go_wp2_with (go_at_call 24; refine (awake13_any _).mono ?_; rintro e w6 ⟨rfl, hb6⟩)
  go_ret
  exact ⟨rfl, (by (with_reducible (repeat' (first | exact Ext.refl _ | assumption | refine Ext.drew ?_ | refine Ext.drewN ?_ _ | refine Ext.alloc ?_ _ | refine Ext.setCell ?_ ?_ _ | refine Ext.trans ?_ (by assumption)))); all_goals (first | (simp; done) | (simp; omega)))⟩

set_option maxRecDepth 100000 in
set_option maxHeartbeats 1000000 in
theorem it_bad1 {w : World} (W H : Int) (a : Option Addr) (l : List Int) (c : Nat) (PW PH s id : Int) (ca : Option Addr) (cs : List Cell) (cc : Nat) (tx ty : Int) (hc : RowC w ca cs) (hl : cs.length ≤ 1000000) (hi : ∀ p ∈ cs, InI p.1 ∧ InI p.2)
    (h : (decide (l.length ≤ 260) && decide (cs.length ≤ 60)) = true) (he : innerE W H l.length PW PH s id cs ≠ 0) :
    Calls Try.prog 6 #[.agg #[.int .i64 W, .int .i64 H, .slice a l.length c], .agg #[.int .i64 PW, .int .i64 PH, .int .i64 s], .agg #[.int .i64 id, .slice ca cs.length cc, .int .i64 tx, .int .i64 ty]] w fun e w' => e = .returned (.bool true) ∧ Ext w w' := by
  have hte : toE W H l.length PW PH s id cs (tx, ty) = innerE W H l.length PW PH s id cs := by unfold toE; rw [if_neg he]
  have HS := hide (fun w' => small13_any W H a l.length c id ca cs.length cc tx ty w')
  rw [h] at HS
  have HT := hide (fun (w' : World) (hx : Ext w w') => iTo_bad (w := w') W H a l.length c PW PH s id ca cs cc none 0 0 (tx, ty) (hc.ext hx) hl hi (by rw [hte]; exact he))
  have HB := hide (fun (w' : World) (hx : Ext w w') => iBack_bad (w := w') a (l := l) c PW PH s id ca cs cc none 0 0 (tx, ty) (hc.ext hx) hl hi (by rw [hte]; exact he))
  have HM := hide (fun (w' : World) (hx : Ext w w') => r13May_any (w := w') W H a l.length c PW PH s id ca cs cc (hc.ext hx) hl hi)
  rw [hte] at HT HB
  generalize innerE W H l.length PW PH s id cs = er at *
  have hb : (er != 0) = true := by simpa using he
  have hb0 : (er == 0) = false := by simpa using he
  obtain ⟨m, hm⟩ : ∃ z, cs.length = z := ⟨_, rfl⟩
  obtain ⟨n, hn⟩ : ∃ z, l.length = z := ⟨_, rfl⟩
  rw [hm, hn] at HS HT HB HM ⊢
  clear h hc hl hi he hm hn hte
  go_enter Try.func6, Try.ntmps6
  go_wp2_with fail
  refine (HS.out _).mono ?_
  rintro e w1 ⟨rfl, hb1⟩
  have B0 : Hid (Blk w1 (w.heap.size) 26 #[.int .i64 W, .int .i64 H, .slice a n c]) := hide (by refine Blk.ext ?_ hb1; (repeat' (first | exact Blk.new_ (by simp) | refine Blk.drew ?_ | refine Blk.over ?_)))
  have B1 : Hid (Blk w1 (w.heap.size + 1) 51 #[.int .i64 PW, .int .i64 PH, .int .i64 s]) := hide (by refine Blk.ext ?_ hb1; (repeat' (first | exact Blk.new_ (by simp) | refine Blk.drew ?_ | refine Blk.over ?_)))
  have B2 : Hid (Blk w1 (w.heap.size + 2) 53 #[.int .i64 id, .slice ca m cc, .int .i64 tx, .int .i64 ty]) := hide (by refine Blk.ext ?_ hb1; (repeat' (first | exact Blk.new_ (by simp) | refine Blk.drew ?_ | refine Blk.over ?_)))
  have hx1 : Ext w w1 := (by (with_reducible (repeat' (first | exact Ext.refl _ | assumption | refine Ext.drew ?_ | refine Ext.drewN ?_ _ | refine Ext.alloc ?_ _ | refine Ext.setCell ?_ ?_ _ | refine Ext.trans ?_ (by assumption)))); all_goals (first | (simp; done) | (simp; omega)))
  have X1 := hide hx1
  have p0 := B0.out.at 0 rfl; have p1 := B0.out.at 1 rfl; have p2 := B0.out.at 2 rfl; have pz := B0.out.lt
  have q0 := B1.out.at 0 rfl; have q1 := B1.out.at 1 rfl; have q2 := B1.out.at 2 rfl; have qz := B1.out.lt
  have r0 := B2.out.at 0 rfl; have r1 := B2.out.at 1 rfl; have r2 := B2.out.at 2 rfl; have r3 := B2.out.at 3 rfl; have rz := B2.out.lt
  clear hb1 hx1
  go_wp2_with fail
  refine (HT.out _ (X1.out.trans (by (with_reducible (repeat' (first | exact Ext.refl _ | assumption | refine Ext.drew ?_ | refine Ext.drewN ?_ _ | refine Ext.alloc ?_ _ | refine Ext.setCell ?_ ?_ _ | refine Ext.trans ?_ (by assumption)))); all_goals (first | (simp; done) | (simp; omega))))).mono ?_
  rintro e w2 ⟨rfl, hb2⟩
  have D : Hid (Blk w2 (w1.heap.size) 57 #[.slice ca m cc, .slice none 0 0]) := hide (by refine Blk.ext ?_ hb2; (repeat' (first | exact Blk.new_ (by simp) | refine Blk.drew ?_ | refine Blk.over ?_)))
  have hx12 : Ext w1 w2 := (by (with_reducible (repeat' (first | exact Ext.refl _ | assumption | refine Ext.drew ?_ | refine Ext.drewN ?_ _ | refine Ext.alloc ?_ _ | refine Ext.setCell ?_ ?_ _ | refine Ext.trans ?_ (by assumption)))); all_goals (first | (simp; done) | (simp; omega)))
  have X2 := hide (X1.out.trans hx12)
  have C0 := hide (B0.out.ext hx12)
  have C1 := hide (B1.out.ext hx12)
  have C2 := hide (B2.out.ext hx12)
  clear p0 p1 p2 pz q0 q1 q2 qz r0 r1 r2 r3 rz B0 B1 B2 X1 hx12 hb2
  have p0 := C0.out.at 0 rfl; have p1 := C0.out.at 1 rfl; have p2 := C0.out.at 2 rfl; have pz := C0.out.lt
  have q0 := C1.out.at 0 rfl; have q1 := C1.out.at 1 rfl; have q2 := C1.out.at 2 rfl; have qz := C1.out.lt
  have r0 := C2.out.at 0 rfl; have r1 := C2.out.at 1 rfl; have r2 := C2.out.at 2 rfl; have r3 := C2.out.at 3 rfl; have rz := C2.out.lt
  have u0 := D.out.at 0 rfl; have u1 := D.out.at 1 rfl; have uz := D.out.lt
  go_wp2_with fail
  refine (HB.out _ (X2.out.trans (by (with_reducible (repeat' (first | exact Ext.refl _ | assumption | refine Ext.drew ?_ | refine Ext.drewN ?_ _ | refine Ext.alloc ?_ _ | refine Ext.setCell ?_ ?_ _ | refine Ext.trans ?_ (by assumption)))); all_goals (first | (simp; done) | (simp; omega))))).mono ?_
  rintro e w3 ⟨rfl, hb3⟩
  have hx23 : Ext w2 w3 := (by (with_reducible (repeat' (first | exact Ext.refl _ | assumption | refine Ext.drew ?_ | refine Ext.drewN ?_ _ | refine Ext.alloc ?_ _ | refine Ext.setCell ?_ ?_ _ | refine Ext.trans ?_ (by assumption)))); all_goals (first | (simp; done) | (simp; omega)))
  have X3 := hide (X2.out.trans hx23)
  have D0 := hide (C0.out.ext hx23)
  have D1 := hide (C1.out.ext hx23)
  have D2 := hide (C2.out.ext hx23)
  clear p0 p1 p2 pz q0 q1 q2 qz r0 r1 r2 r3 rz u0 u1 uz C0 C1 C2 X2 hx23 hb3 D
  have p0 := D0.out.at 0 rfl; have p1 := D0.out.at 1 rfl; have p2 := D0.out.at 2 rfl; have pz := D0.out.lt
  have q0 := D1.out.at 0 rfl; have q1 := D1.out.at 1 rfl; have q2 := D1.out.at 2 rfl; have qz := D1.out.lt
  have r0 := D2.out.at 0 rfl; have r1 := D2.out.at 1 rfl; have r2 := D2.out.at 2 rfl; have r3 := D2.out.at 3 rfl; have rz := D2.out.lt
  go_wp2_with fail
  refine (HM.out _ (X3.out.trans (by (with_reducible (repeat' (first | exact Ext.refl _ | assumption | refine Ext.drew ?_ | refine Ext.drewN ?_ _ | refine Ext.alloc ?_ _ | refine Ext.setCell ?_ ?_ _ | refine Ext.trans ?_ (by assumption)))); all_goals (first | (simp; done) | (simp; omega))))).mono ?_
  rintro e w4 ⟨rfl, hb4⟩
  have hx4 : Ext w w4 := X3.out.trans (by (with_reducible (repeat' (first | exact Ext.refl _ | assumption | refine Ext.drew ?_ | refine Ext.drewN ?_ _ | refine Ext.alloc ?_ _ | refine Ext.setCell ?_ ?_ _ | refine Ext.trans ?_ (by assumption)))); all_goals (first | (simp; done) | (simp; omega)))
  have hee : (er == er) = true := by simp
  clear p0 p1 p2 pz q0 q1 q2 qz r0 r1 r2 r3 rz D0 D1 D2 hb4
  go_wp2_with fail
  refine seqH_start (S := (fun W => (∀ b o, b < w4.heap.size → W.cell? ⟨b, o, none⟩ = w4.cell? ⟨b, o, none⟩) ∧ Ext w4 W)) [(0, true), (1, true), (2, true), (3, true), (4, true), (5, true), (6, true), (7, true), (8, true), (9, true), (10, true), (11, true), (12, true), (13, true), (14, true), (15, true), (16, true)] (by kernel_rfl) (by kernel_rfl) (by kernel_rfl) (by decide) (fun _ _ d _ _ h => by cases d <;> exact h) (by first | with_reducible exact pr_start _ | exact pr_of (by (with_reducible (repeat' (first | exact Ext.refl _ | assumption | refine Ext.drew ?_ | refine Ext.drewN ?_ _ | refine Ext.alloc ?_ _ | refine Ext.setCell ?_ ?_ _ | refine Ext.trans ?_ (by assumption)))); all_goals (first | (simp; done) | (simp; omega)))) (fun hHeld => ?_)
  iterate 17 (apply SeqH.free; (· (simp only [List.getElem?_toArray, List.getElem?_cons_succ, List.getElem?_cons_zero]; rfl)); (· first | exact Or.inr ⟨by rfl, rfl⟩ | (refine Or.inl ⟨by rfl, ?_⟩; intro w hSw; (try dsimp only at hSw); go_simp; try with_reducible rfl)); try simp only [Act.put, List.setIfInBounds_toArray, List.set_cons_zero, List.set_cons_succ])
  refine SeqH.done ?_
  clear hHeld
  go_wp2_with (go_at_call 24; refine (awake13_any _).mono ?_; rintro e w6 ⟨rfl, hb6⟩)
  go_ret
  exact ⟨rfl, hx4.trans (by (with_reducible (repeat' (first | exact Ext.refl _ | assumption | refine Ext.drew ?_ | refine Ext.drewN ?_ _ | refine Ext.alloc ?_ _ | refine Ext.setCell ?_ ?_ _ | refine Ext.trans ?_ (by assumption)))); all_goals (first | (simp; done) | (simp; omega)))⟩

theorem rowc1 {w : World} {b : Nat} {x y : Int} (h : Blk w b 28 #[.int .i64 x, .int .i64 y]) : RowC w (some ⟨b, 0, none⟩) [(x, y)] := fun _ => by
  refine ⟨b, 0, rfl, h.lt, fun k hk => ?_⟩
  obtain rfl : k = 0 := by simp at hk; exact hk
  exact ⟨h.at 0 rfl, h.at 1 rfl⟩

end Go.Proofs.Ytifbmapianddcaa

/- The walk of InnerTo: a cell that is not in the cluster. -/
namespace Go.Proofs.Ytifbmapianddcaa
open Go.RowKit

set_option maxRecDepth 100000 in
set_option maxHeartbeats 1000000 in
theorem it_bad2 {w : World} {W H : Int} {a : Option Addr} {l : List Int} (c : Nat) {PW PH s id : Int} {ca : Option Addr} {cs : List Cell} (cc : Nat) (tx ty : Int) (hr : Row16 w a l) (hu : U16s l) (hc : RowC w ca cs) (hl : cs.length ≤ 1000000) (hi : ∀ p ∈ cs, InI p.1 ∧ InI p.2) (ix : InI tx) (iy : InI ty)
    (h : (decide (l.length ≤ 260) && decide (cs.length ≤ 60)) = true) (he : innerE W H l.length PW PH s id cs = 0) (hh : hasB (boxX W s id) (boxY W s id) (boxW W s id) (boxH W H s id) tx ty = false) :
    Calls Try.prog 6 #[.agg #[.int .i64 W, .int .i64 H, .slice a l.length c], .agg #[.int .i64 PW, .int .i64 PH, .int .i64 s], .agg #[.int .i64 id, .slice ca cs.length cc, .int .i64 tx, .int .i64 ty]] w fun e w' => e = .returned (.bool true) ∧ Ext w w' := by
  obtain ⟨e1, rfl, rfl, e4, e5, e6⟩ := innerE_ok.1 he
  have hte : toE PW PH l.length PW PH s id cs (tx, ty) = 10 := by unfold toE lookE; rw [if_pos he, if_pos e1, if_neg (by rw [hh]; simp)]
  have HS := hide (fun w' => small13_any PW PH a l.length c id ca cs.length cc tx ty w')
  rw [h] at HS
  have HT := hide (fun (w' : World) (hx : Ext w w') => iTo_bad (w := w') PW PH a l.length c PW PH s id ca cs cc none 0 0 (tx, ty) (hc.ext hx) hl hi (by rw [hte]; decide))
  have HB := hide (fun (w' : World) (hx : Ext w w') => iBack_bad (w := w') a (l := l) c PW PH s id ca cs cc none 0 0 (tx, ty) (hc.ext hx) hl hi (by rw [hte]; decide))
  have HM := hide (fun (w' : World) (hx : Ext w w') => r13May_any (w := w') PW PH a l.length c PW PH s id ca cs cc (hc.ext hx) hl hi)
  rw [hte] at HT HB
  rw [he] at HM
  obtain ⟨K, rfl⟩ : ∃ K : Nat, id = (K : Int) := ⟨id.toNat, by omega⟩
  have bb := box_bd e4 (id := (K : Int)) (by omega) e5.2
  have HHAS := hide (fun w' => rHas_any (boxX PW s (K : Int)) (boxY PW s (K : Int)) (boxW PW s (K : Int)) (boxH PW PH s (K : Int)) tx ty w' (by omega) (by omega) ix iy)
  rw [hh] at HHAS
  have HBA := hide (boxesAll_at e4 K e5.2)
  have HR := hide e4
  have b0 := cnt_bd e4
  have hbl := boxesAll_len e4
  obtain ⟨N, hN⟩ : ∃ N : Nat, (boxesAll PW PH s).length = N := ⟨_, rfl⟩
  have hN' : (boxesR PW PH s (acr PH s).toNat).length = N := hN
  have nb : N ≤ 65536 := by omega
  have jK : (K : Int) < (N : Int) := by have := e5.2; omega
  have HN' := hide hN'
  have hbp : boxP PW PH s (K : Int) = ((boxX PW s K, boxY PW s K), (boxW PW s K, boxH PW PH s K)) := rfl
  rw [hbp] at HBA
  obtain ⟨m, hm⟩ : ∃ z, cs.length = z := ⟨_, rfl⟩
  obtain ⟨n, hn⟩ : ∃ z, l.length = z := ⟨_, rfl⟩
  rw [hm, hn] at HS HT HB HM ⊢
  clear h hc hl hi he hm hn hte hbl b0 e1 e4 e5 e6 hN hN' hbp bb hh hr hu ix iy
  generalize boxX PW s (K : Int) = X at *
  generalize boxY PW s (K : Int) = Y at *
  generalize boxW PW s (K : Int) = BW at *
  generalize boxH PW PH s (K : Int) = BH at *
  go_enter Try.func6, Try.ntmps6
  go_wp2_with fail
  refine (HS.out _).mono ?_
  rintro e w1 ⟨rfl, hb1⟩
  have B0 : Hid (Blk w1 (w.heap.size) 26 #[.int .i64 PW, .int .i64 PH, .slice a n c]) := hide (by refine Blk.ext ?_ hb1; (repeat' (first | exact Blk.new_ (by simp) | refine Blk.drew ?_ | refine Blk.over ?_)))
  have B1 : Hid (Blk w1 (w.heap.size + 1) 51 #[.int .i64 PW, .int .i64 PH, .int .i64 s]) := hide (by refine Blk.ext ?_ hb1; (repeat' (first | exact Blk.new_ (by simp) | refine Blk.drew ?_ | refine Blk.over ?_)))
  have B2 : Hid (Blk w1 (w.heap.size + 2) 53 #[.int .i64 K, .slice ca m cc, .int .i64 tx, .int .i64 ty]) := hide (by refine Blk.ext ?_ hb1; (repeat' (first | exact Blk.new_ (by simp) | refine Blk.drew ?_ | refine Blk.over ?_)))
  have hx1 : Ext w w1 := (by (with_reducible (repeat' (first | exact Ext.refl _ | assumption | refine Ext.drew ?_ | refine Ext.drewN ?_ _ | refine Ext.alloc ?_ _ | refine Ext.setCell ?_ ?_ _ | refine Ext.trans ?_ (by assumption)))); all_goals (first | (simp; done) | (simp; omega)))
  have X1 := hide hx1
  have p0 := B0.out.at 0 rfl; have p1 := B0.out.at 1 rfl; have p2 := B0.out.at 2 rfl; have pz := B0.out.lt
  have q0 := B1.out.at 0 rfl; have q1 := B1.out.at 1 rfl; have q2 := B1.out.at 2 rfl; have qz := B1.out.lt
  have r0 := B2.out.at 0 rfl; have r1 := B2.out.at 1 rfl; have r2 := B2.out.at 2 rfl; have r3 := B2.out.at 3 rfl; have rz := B2.out.lt
  clear hb1 hx1
  go_wp2_with fail
  refine (HT.out _ (X1.out.trans (by (with_reducible (repeat' (first | exact Ext.refl _ | assumption | refine Ext.drew ?_ | refine Ext.drewN ?_ _ | refine Ext.alloc ?_ _ | refine Ext.setCell ?_ ?_ _ | refine Ext.trans ?_ (by assumption)))); all_goals (first | (simp; done) | (simp; omega))))).mono ?_
  rintro e w2 ⟨rfl, hb2⟩
  have D : Hid (Blk w2 (w1.heap.size) 57 #[.slice ca m cc, .slice none 0 0]) := hide (by refine Blk.ext ?_ hb2; (repeat' (first | exact Blk.new_ (by simp) | refine Blk.drew ?_ | refine Blk.over ?_)))
  have hx12 : Ext w1 w2 := (by (with_reducible (repeat' (first | exact Ext.refl _ | assumption | refine Ext.drew ?_ | refine Ext.drewN ?_ _ | refine Ext.alloc ?_ _ | refine Ext.setCell ?_ ?_ _ | refine Ext.trans ?_ (by assumption)))); all_goals (first | (simp; done) | (simp; omega)))
  have X2 := hide (X1.out.trans hx12)
  have C0 := hide (B0.out.ext hx12)
  have C1 := hide (B1.out.ext hx12)
  have C2 := hide (B2.out.ext hx12)
  clear p0 p1 p2 pz q0 q1 q2 qz r0 r1 r2 r3 rz B0 B1 B2 X1 hx12 hb2
  have p0 := C0.out.at 0 rfl; have p1 := C0.out.at 1 rfl; have p2 := C0.out.at 2 rfl; have pz := C0.out.lt
  have q0 := C1.out.at 0 rfl; have q1 := C1.out.at 1 rfl; have q2 := C1.out.at 2 rfl; have qz := C1.out.lt
  have r0 := C2.out.at 0 rfl; have r1 := C2.out.at 1 rfl; have r2 := C2.out.at 2 rfl; have r3 := C2.out.at 3 rfl; have rz := C2.out.lt
  have u0 := D.out.at 0 rfl; have u1 := D.out.at 1 rfl; have uz := D.out.lt
  go_wp2_with fail
  refine (HB.out _ (X2.out.trans (by (with_reducible (repeat' (first | exact Ext.refl _ | assumption | refine Ext.drew ?_ | refine Ext.drewN ?_ _ | refine Ext.alloc ?_ _ | refine Ext.setCell ?_ ?_ _ | refine Ext.trans ?_ (by assumption)))); all_goals (first | (simp; done) | (simp; omega))))).mono ?_
  rintro e w3 ⟨rfl, hb3⟩
  have hx23 : Ext w2 w3 := (by (with_reducible (repeat' (first | exact Ext.refl _ | assumption | refine Ext.drew ?_ | refine Ext.drewN ?_ _ | refine Ext.alloc ?_ _ | refine Ext.setCell ?_ ?_ _ | refine Ext.trans ?_ (by assumption)))); all_goals (first | (simp; done) | (simp; omega)))
  have X3 := hide (X2.out.trans hx23)
  have D0 := hide (C0.out.ext hx23)
  have D1 := hide (C1.out.ext hx23)
  have D2 := hide (C2.out.ext hx23)
  clear p0 p1 p2 pz q0 q1 q2 qz r0 r1 r2 r3 rz u0 u1 uz C0 C1 C2 X2 hx23 hb3 D
  have p0 := D0.out.at 0 rfl; have p1 := D0.out.at 1 rfl; have p2 := D0.out.at 2 rfl; have pz := D0.out.lt
  have q0 := D1.out.at 0 rfl; have q1 := D1.out.at 1 rfl; have q2 := D1.out.at 2 rfl; have qz := D1.out.lt
  have r0 := D2.out.at 0 rfl; have r1 := D2.out.at 1 rfl; have r2 := D2.out.at 2 rfl; have r3 := D2.out.at 3 rfl; have rz := D2.out.lt
  go_wp2_with fail
  refine (HM.out _ (X3.out.trans (by (with_reducible (repeat' (first | exact Ext.refl _ | assumption | refine Ext.drew ?_ | refine Ext.drewN ?_ _ | refine Ext.alloc ?_ _ | refine Ext.setCell ?_ ?_ _ | refine Ext.trans ?_ (by assumption)))); all_goals (first | (simp; done) | (simp; omega))))).mono ?_
  rintro e w4 ⟨rfl, hb4⟩
  have hx34 : Ext w3 w4 := (by (with_reducible (repeat' (first | exact Ext.refl _ | assumption | refine Ext.drew ?_ | refine Ext.drewN ?_ _ | refine Ext.alloc ?_ _ | refine Ext.setCell ?_ ?_ _ | refine Ext.trans ?_ (by assumption)))); all_goals (first | (simp; done) | (simp; omega)))
  have X4 := hide (X3.out.trans hx34)
  have E1 := hide (D1.out.ext hx34)
  have E2 := hide (D2.out.ext hx34)
  clear p0 p1 p2 pz q0 q1 q2 qz r0 r1 r2 r3 rz D0 D1 D2 hb4 hx34 X3
  have q0 := E1.out.at 0 rfl; have q1 := E1.out.at 1 rfl; have q2 := E1.out.at 2 rfl; have qz := E1.out.lt
  have r0 := E2.out.at 0 rfl; have r1 := E2.out.at 1 rfl; have r2 := E2.out.at 2 rfl; have r3 := E2.out.at 3 rfl; have rz := E2.out.lt
  go_wp2_with fail
  refine seqH_start (S := (fun W => (∀ b o, b < w4.heap.size → W.cell? ⟨b, o, none⟩ = w4.cell? ⟨b, o, none⟩) ∧ Ext w4 W)) [(0, true), (1, true), (2, true), (3, true), (4, true), (5, true), (6, true), (8, true), (9, true), (12, true), (13, true), (7, false), (10, true), (11, false), (14, false), (15, true), (16, true)] (by kernel_rfl) (by kernel_rfl) (by kernel_rfl) (by decide) (fun _ _ d _ _ h => by cases d <;> exact h) (by first | with_reducible exact pr_start _ | exact pr_of (by (with_reducible (repeat' (first | exact Ext.refl _ | assumption | refine Ext.drew ?_ | refine Ext.drewN ?_ _ | refine Ext.alloc ?_ _ | refine Ext.setCell ?_ ?_ _ | refine Ext.trans ?_ (by assumption)))); all_goals (first | (simp; done) | (simp; omega)))) (fun hHeld => ?_)
  iterate 11 (apply SeqH.free; (· (simp only [List.getElem?_toArray, List.getElem?_cons_succ, List.getElem?_cons_zero]; rfl)); (· first | exact Or.inr ⟨by rfl, rfl⟩ | (refine Or.inl ⟨by rfl, ?_⟩; intro w hSw; (try dsimp only at hSw); go_simp; try with_reducible rfl)); try simp only [Act.put, List.setIfInBounds_toArray, List.set_cons_zero, List.set_cons_succ])
  (apply SeqH.step; (· (simp only [List.getElem?_toArray, List.getElem?_cons_succ, List.getElem?_cons_zero]; rfl)); intro K hK; go_simp; refine (rBoxes_any _ _ _ _ HR.out).mono ?_; rintro e w5 ⟨v5, rfl, hb5, hv5⟩; obtain ⟨g5, c5, rfl, hg1, hg2⟩ := hv5.pos (by rw [HN'.out]; omega); have hv := hv5.reads.pair_at HBA.out; have V0 := hv.1; have V1 := hv.2.1; have V2 := hv.2.2.1; have V3 := hv.2.2.2; rw [HN'.out]; clear hv hv5; go_wp2_with fail; refine hK.out _ _ (pr_of (by (with_reducible (repeat' (first | exact Ext.refl _ | assumption | refine Ext.drew ?_ | refine Ext.drewN ?_ _ | refine Ext.alloc ?_ _ | refine Ext.setCell ?_ ?_ _ | refine Ext.trans ?_ (by assumption)))); all_goals (first | (simp; done) | (simp; omega)))) (fun hHeld => ?_); clear hK K; try simp only [Act.put, List.setIfInBounds_toArray, List.set_cons_zero, List.set_cons_succ])
  iterate 1 (apply SeqH.free; (· (simp only [List.getElem?_toArray, List.getElem?_cons_succ, List.getElem?_cons_zero]; rfl)); (· first | exact Or.inr ⟨by rfl, rfl⟩ | (refine Or.inl ⟨by rfl, ?_⟩; intro w hSw; (try dsimp only at hSw); go_simp; try with_reducible rfl)); try simp only [Act.put, List.setIfInBounds_toArray, List.set_cons_zero, List.set_cons_succ])
  (apply SeqH.step; (· (simp only [List.getElem?_toArray, List.getElem?_cons_succ, List.getElem?_cons_zero]; rfl)); intro K hK; go_simp; refine hK.out _ _ (pr_of (by (with_reducible (repeat' (first | exact Ext.refl _ | assumption | refine Ext.drew ?_ | refine Ext.drewN ?_ _ | refine Ext.alloc ?_ _ | refine Ext.setCell ?_ ?_ _ | refine Ext.trans ?_ (by assumption)))); all_goals (first | (simp; done) | (simp; omega)))) (fun hHeld => ?_); clear hK K; try simp only [Act.put, List.setIfInBounds_toArray, List.set_cons_zero, List.set_cons_succ])
  (apply SeqH.step; (· (simp only [List.getElem?_toArray, List.getElem?_cons_succ, List.getElem?_cons_zero]; rfl)); intro K hK; go_simp; refine (HHAS.out _).mono ?_; rintro e w6 ⟨rfl, hb6⟩; go_wp2_with fail; refine hK.out _ _ (pr_of (by (with_reducible (repeat' (first | exact Ext.refl _ | assumption | refine Ext.drew ?_ | refine Ext.drewN ?_ _ | refine Ext.alloc ?_ _ | refine Ext.setCell ?_ ?_ _ | refine Ext.trans ?_ (by assumption)))); all_goals (first | (simp; done) | (simp; omega)))) (fun hHeld => ?_); clear hK K; try simp only [Act.put, List.setIfInBounds_toArray, List.set_cons_zero, List.set_cons_succ])
  iterate 2 (apply SeqH.free; (· (simp only [List.getElem?_toArray, List.getElem?_cons_succ, List.getElem?_cons_zero]; rfl)); (· first | exact Or.inr ⟨by rfl, rfl⟩ | (refine Or.inl ⟨by rfl, ?_⟩; intro w hSw; (try dsimp only at hSw); go_simp; try with_reducible rfl)); try simp only [Act.put, List.setIfInBounds_toArray, List.set_cons_zero, List.set_cons_succ])
  refine SeqH.done ?_
  have hx46 := hHeld.2
  clear hHeld hb5 hb6 V0 V1 V2 V3 hg1 hg2 q0 q1 q2 qz r0 r1 r2 r3 rz E1 E2
  go_wp2_with (go_at_call 24; refine (awake13_any _).mono ?_; rintro e w7 ⟨rfl, hb7⟩)
  go_ret
  exact ⟨rfl, (X4.out.trans hx46).trans (by (with_reducible (repeat' (first | exact Ext.refl _ | assumption | refine Ext.drew ?_ | refine Ext.drewN ?_ _ | refine Ext.alloc ?_ _ | refine Ext.setCell ?_ ?_ _ | refine Ext.trans ?_ (by assumption)))); all_goals (first | (simp; done) | (simp; omega)))⟩

end Go.Proofs.Ytifbmapianddcaa

/- The walk of InnerTo. -/
namespace Go.Proofs.Ytifbmapianddcaa
open Go.RowKit

set_option maxRecDepth 100000 in
set_option maxHeartbeats 4000000 in
theorem it_ok {w : World} {W H : Int} {a : Option Addr} {l : List Int} (c : Nat) {PW PH s id : Int} {ca : Option Addr} {cs : List Cell} (cc : Nat) (tx ty : Int) (hr : Row16 w a l) (hu : U16s l) (hc : RowC w ca cs) (hl : cs.length ≤ 1000000) (hi : ∀ p ∈ cs, InI p.1 ∧ InI p.2) (ix : InI tx) (iy : InI ty)
    (h : (decide (l.length ≤ 260) && decide (cs.length ≤ 60)) = true) (he : innerE W H l.length PW PH s id cs = 0) (hh : hasB (boxX W s id) (boxY W s id) (boxW W s id) (boxH W H s id) tx ty = true) :
    Calls Try.prog 6 #[.agg #[.int .i64 W, .int .i64 H, .slice a l.length c], .agg #[.int .i64 PW, .int .i64 PH, .int .i64 s], .agg #[.int .i64 id, .slice ca cs.length cc, .int .i64 tx, .int .i64 ty]] w fun e w' => e = .returned (.bool true) ∧ Ext w w' := by
  obtain ⟨e1, rfl, rfl, e4, e5, e6⟩ := innerE_ok.1 he
  have L : boxL PW PH s id l := boxL_of e1 e4 e5 hu
  have hok := cells_ok e4 e5 e6
  have hlk : ∀ q : Cell, hasB (boxX PW s id) (boxY PW s id) (boxW PW s id) (boxH PW PH s id) q.1 q.2 = true → lookE PW PH l.length (boxX PW s id) (boxY PW s id) (boxW PW s id) (boxH PW PH s id) q.1 q.2 = 0 := fun q hq => lookE_ok.2 ⟨L.may, L.len, L.fits, hq⟩
  have hte : toE PW PH l.length PW PH s id cs (tx, ty) = 0 := by unfold toE; rw [if_pos he]; exact hlk (tx, ty) hh
  have HS := hide (fun w' => small13_any PW PH a l.length c id ca cs.length cc tx ty w')
  rw [h] at HS
  have hl60 : cs.length ≤ 60 := by simp at h; exact h.2
  have HT := hide (fun (w' : World) (hx : Ext w w') => iTo_ok (w := w') c cc none 0 0 (p := (tx, ty)) (hr.ext hx) (hc.ext hx) hl hi hte L)
  have HB := hide (fun (w' : World) (hx : Ext w w') => iBack_ok (w := w') c cc none 0 0 (p := (tx, ty)) (hr.ext hx) (hc.ext hx) hl hi hte L)
  have HM := hide (fun (w' : World) (hx : Ext w w') => r13May_any (w := w') PW PH a l.length c PW PH s id ca cs cc (hc.ext hx) hl hi)
  have HW := hide (fun (w' : World) (hx : Ext w w') => r13Row_any (w := w') L c (tx, ty) (hlk (tx, ty) hh) cc hok hl (hr.ext hx) hu (hc.ext hx))
  have HV := hide (fun (w' : World) (hx : Ext w w') (g : Nat) (hg : Blk w' g 28 #[.int .i64 tx, .int .i64 ty]) (q : Cell) (hq : q ∈ cs) => r13Row_any (w := w') L c q (hlk q (hok q hq)) (cs := [(tx, ty)]) 1 (fun z hz => by simp only [List.mem_singleton] at hz; subst hz; exact hh) (by simp) (hr.ext hx) hu (rowc1 hg))
  have HL1 : Hid ((rowD L cs (tx, ty)).length = cs.length) := hide (by unfold rowD; rw [List.length_map])
  have HL2 : Hid ((cs.map (fun q => farD L q (idxN PW (tx, ty)))).length = cs.length) := hide (List.length_map _)
  have hone : ∀ q, rowD L [(tx, ty)] q = [farD L q (idxN PW (tx, ty))] := fun q => rfl
  simp only [hone, List.length_singleton] at HV
  obtain ⟨F, hF⟩ : ∃ F : Cell → Int, ∀ q, farD L q (idxN PW (tx, ty)) = F q := ⟨_, fun _ => rfl⟩
  simp only [hF] at HV HB HL2
  obtain ⟨R1, hR1⟩ : ∃ z, rowD L cs (tx, ty) = z := ⟨_, rfl⟩
  rw [hR1] at HT HW HL1
  obtain ⟨R2, hR2⟩ : ∃ z, cs.map (fun q => F q) = z := ⟨_, rfl⟩
  have HR2 := hide (show cs.map F = R2 from hR2)
  rw [hR2] at HB HL2
  rw [he] at HM
  have HS1 := hide (fun (w' : World) (x y : Option Addr) (p q : Nat) (h1 : RowU w' x R1) (h2 : RowU w' y R1) => same13_any x y R1 R1 p q w' (by rw [HL1.out]; exact hl) h1 h2)
  have HS2 := hide (fun (w' : World) (x y : Option Addr) (p q : Nat) (h1 : RowU w' x R2) (h2 : RowU w' y R2) => same13_any x y R2 R2 p q w' (by rw [HL2.out]; exact hl) h1 h2)
  rw [HL1.out] at HS1
  rw [HL2.out] at HS2
  simp only [decide_true] at HS1 HS2
  obtain ⟨K, rfl⟩ : ∃ K : Nat, id = (K : Int) := ⟨id.toNat, by omega⟩
  have bb := box_bd e4 (id := (K : Int)) (by omega) e5.2
  have HHAS := hide (fun w' => rHas_any (boxX PW s (K : Int)) (boxY PW s (K : Int)) (boxW PW s (K : Int)) (boxH PW PH s (K : Int)) tx ty w' (by omega) (by omega) ix iy)
  rw [hh] at HHAS
  have HBA := hide (boxesAll_at e4 K e5.2)
  have HR := hide e4
  have HC := hide hc
  have b0 := cnt_bd e4
  have hbl := boxesAll_len e4
  obtain ⟨N, hN⟩ : ∃ N : Nat, (boxesAll PW PH s).length = N := ⟨_, rfl⟩
  have hN' : (boxesR PW PH s (acr PH s).toNat).length = N := hN
  have nb : N ≤ 65536 := by omega
  have jK : (K : Int) < (N : Int) := by have := e5.2; omega
  have HN' := hide hN'
  have hbp : boxP PW PH s (K : Int) = ((boxX PW s K, boxY PW s K), (boxW PW s K, boxH PW PH s K)) := rfl
  rw [hbp] at HBA
  obtain ⟨m, hm⟩ : ∃ z, cs.length = z := ⟨_, rfl⟩
  obtain ⟨n, hn⟩ : ∃ z, l.length = z := ⟨_, rfl⟩
  have HMM := hide hm
  rw [hm] at HS HT HB HM HW HL1 HL2 HS1 HS2 hl60 ⊢
  rw [hn] at HS HT HB HM HW HV ⊢
  clear h hc hl hi he hm hn hte hbl b0 e1 e4 e5 e6 hN hN' hbp bb hh hr hu ix iy hok hlk hone hF hR1 hR2 L
  simp only at HT HB HW HHAS
  generalize boxX PW s (K : Int) = X at *
  generalize boxY PW s (K : Int) = Y at *
  generalize boxW PW s (K : Int) = BW at *
  generalize boxH PW PH s (K : Int) = BH at *
  go_enter Try.func6, Try.ntmps6
  go_wp2_with fail
  refine (HS.out _).mono ?_
  rintro e w1 ⟨rfl, hb1⟩
  have B0 : Hid (Blk w1 (w.heap.size) 26 #[.int .i64 PW, .int .i64 PH, .slice a n c]) := hide (by refine Blk.ext ?_ hb1; (repeat' (first | exact Blk.new_ (by simp) | refine Blk.drew ?_ | refine Blk.over ?_)))
  have B1 : Hid (Blk w1 (w.heap.size + 1) 51 #[.int .i64 PW, .int .i64 PH, .int .i64 s]) := hide (by refine Blk.ext ?_ hb1; (repeat' (first | exact Blk.new_ (by simp) | refine Blk.drew ?_ | refine Blk.over ?_)))
  have B2 : Hid (Blk w1 (w.heap.size + 2) 53 #[.int .i64 K, .slice ca m cc, .int .i64 tx, .int .i64 ty]) := hide (by refine Blk.ext ?_ hb1; (repeat' (first | exact Blk.new_ (by simp) | refine Blk.drew ?_ | refine Blk.over ?_)))
  have hx1 : Ext w w1 := (by (with_reducible (repeat' (first | exact Ext.refl _ | assumption | refine Ext.drew ?_ | refine Ext.drewN ?_ _ | refine Ext.alloc ?_ _ | refine Ext.setCell ?_ ?_ _ | refine Ext.trans ?_ (by assumption)))); all_goals (first | (simp; done) | (simp; omega)))
  have X1 := hide hx1
  have p0 := B0.out.at 0 rfl; have p1 := B0.out.at 1 rfl; have p2 := B0.out.at 2 rfl; have pz := B0.out.lt
  have q0 := B1.out.at 0 rfl; have q1 := B1.out.at 1 rfl; have q2 := B1.out.at 2 rfl; have qz := B1.out.lt
  have r0 := B2.out.at 0 rfl; have r1 := B2.out.at 1 rfl; have r2 := B2.out.at 2 rfl; have r3 := B2.out.at 3 rfl; have rz := B2.out.lt
  clear hb1 hx1
  go_wp2_with fail
  refine (HT.out _ (X1.out.trans (by (with_reducible (repeat' (first | exact Ext.refl _ | assumption | refine Ext.drew ?_ | refine Ext.drewN ?_ _ | refine Ext.alloc ?_ _ | refine Ext.setCell ?_ ?_ _ | refine Ext.trans ?_ (by assumption)))); all_goals (first | (simp; done) | (simp; omega))))).mono ?_
  rintro e w2 ⟨⟨s1, s2, s3⟩, rfl, hb2, ho2⟩
  simp only at ho2 ⊢
  have es : m = s2 := by have := ho2.reads.rowU.1; rw [HL1.out] at this; exact this.symm
  subst es
  have D : Hid (Blk w2 (w1.heap.size) 57 #[.slice ca m cc, .slice none 0 0]) := hide (by refine Blk.ext ?_ hb2; (repeat' (first | exact Blk.new_ (by simp) | refine Blk.drew ?_ | refine Blk.over ?_)))
  have hx12 : Ext w1 w2 := (by (with_reducible (repeat' (first | exact Ext.refl _ | assumption | refine Ext.drew ?_ | refine Ext.drewN ?_ _ | refine Ext.alloc ?_ _ | refine Ext.setCell ?_ ?_ _ | refine Ext.trans ?_ (by assumption)))); all_goals (first | (simp; done) | (simp; omega)))
  have X2 := hide (X1.out.trans hx12)
  have A2 := hide ho2.reads.rowU.2
  clear ho2
  have C0 := hide (B0.out.ext hx12)
  have C1 := hide (B1.out.ext hx12)
  have C2 := hide (B2.out.ext hx12)
  clear p0 p1 p2 pz q0 q1 q2 qz r0 r1 r2 r3 rz B0 B1 B2 X1 hx12 hb2
  have p0 := C0.out.at 0 rfl; have p1 := C0.out.at 1 rfl; have p2 := C0.out.at 2 rfl; have pz := C0.out.lt
  have q0 := C1.out.at 0 rfl; have q1 := C1.out.at 1 rfl; have q2 := C1.out.at 2 rfl; have qz := C1.out.lt
  have r0 := C2.out.at 0 rfl; have r1 := C2.out.at 1 rfl; have r2 := C2.out.at 2 rfl; have r3 := C2.out.at 3 rfl; have rz := C2.out.lt
  have u0 := D.out.at 0 rfl; have u1 := D.out.at 1 rfl; have uz := D.out.lt
  go_wp2_with fail
  refine (HB.out _ (X2.out.trans (by (with_reducible (repeat' (first | exact Ext.refl _ | assumption | refine Ext.drew ?_ | refine Ext.drewN ?_ _ | refine Ext.alloc ?_ _ | refine Ext.setCell ?_ ?_ _ | refine Ext.trans ?_ (by assumption)))); all_goals (first | (simp; done) | (simp; omega))))).mono ?_
  rintro e w3 ⟨v3, rfl, hb3, ho3⟩
  obtain ⟨t1, t3, rfl⟩ := ho3.slice
  rw [HL2.out] at ho3 ⊢
  have hx23 : Ext w2 w3 := (by (with_reducible (repeat' (first | exact Ext.refl _ | assumption | refine Ext.drew ?_ | refine Ext.drewN ?_ _ | refine Ext.alloc ?_ _ | refine Ext.setCell ?_ ?_ _ | refine Ext.trans ?_ (by assumption)))); all_goals (first | (simp; done) | (simp; omega)))
  have X3 := hide (X2.out.trans hx23)
  have A3 := hide (A2.out.ext hx23)
  have B3 := hide ho3.reads.rowU.2
  clear ho3 A2
  have D0 := hide (C0.out.ext hx23)
  have D1 := hide (C1.out.ext hx23)
  have D2 := hide (C2.out.ext hx23)
  clear p0 p1 p2 pz q0 q1 q2 qz r0 r1 r2 r3 rz u0 u1 uz C0 C1 C2 X2 hx23 hb3 D
  have p0 := D0.out.at 0 rfl; have p1 := D0.out.at 1 rfl; have p2 := D0.out.at 2 rfl; have pz := D0.out.lt
  have q0 := D1.out.at 0 rfl; have q1 := D1.out.at 1 rfl; have q2 := D1.out.at 2 rfl; have qz := D1.out.lt
  have r0 := D2.out.at 0 rfl; have r1 := D2.out.at 1 rfl; have r2 := D2.out.at 2 rfl; have r3 := D2.out.at 3 rfl; have rz := D2.out.lt
  go_wp2_with fail
  refine (HM.out _ (X3.out.trans (by (with_reducible (repeat' (first | exact Ext.refl _ | assumption | refine Ext.drew ?_ | refine Ext.drewN ?_ _ | refine Ext.alloc ?_ _ | refine Ext.setCell ?_ ?_ _ | refine Ext.trans ?_ (by assumption)))); all_goals (first | (simp; done) | (simp; omega))))).mono ?_
  rintro e w4 ⟨rfl, hb4⟩
  have hx34 : Ext w3 w4 := (by (with_reducible (repeat' (first | exact Ext.refl _ | assumption | refine Ext.drew ?_ | refine Ext.drewN ?_ _ | refine Ext.alloc ?_ _ | refine Ext.setCell ?_ ?_ _ | refine Ext.trans ?_ (by assumption)))); all_goals (first | (simp; done) | (simp; omega)))
  have X4 := hide (X3.out.trans hx34)
  have A4 := hide (A3.out.ext hx34)
  have B4 := hide (B3.out.ext hx34)
  have E0 := hide (D0.out.ext hx34)
  clear A3 B3
  have E1 := hide (D1.out.ext hx34)
  have E2 := hide (D2.out.ext hx34)
  clear p0 p1 p2 pz q0 q1 q2 qz r0 r1 r2 r3 rz D0 D1 D2 hb4 hx34 X3
  have q0 := E1.out.at 0 rfl; have q1 := E1.out.at 1 rfl; have q2 := E1.out.at 2 rfl; have qz := E1.out.lt
  have r0 := E2.out.at 0 rfl; have r1 := E2.out.at 1 rfl; have r2 := E2.out.at 2 rfl; have r3 := E2.out.at 3 rfl; have rz := E2.out.lt
  go_wp2_with fail
  refine seqH_start (S := (fun W => (∀ b o, b < w4.heap.size → W.cell? ⟨b, o, none⟩ = w4.cell? ⟨b, o, none⟩) ∧ Ext w4 W)) [(0, true), (1, true), (2, true), (3, true), (4, true), (5, true), (6, true), (8, true), (9, true), (12, true), (13, true), (7, false), (10, true), (11, false), (14, false), (15, true), (16, true)] (by kernel_rfl) (by kernel_rfl) (by kernel_rfl) (by decide) (fun _ _ d _ _ h => by cases d <;> exact h) (by first | with_reducible exact pr_start _ | exact pr_of (by (with_reducible (repeat' (first | exact Ext.refl _ | assumption | refine Ext.drew ?_ | refine Ext.drewN ?_ _ | refine Ext.alloc ?_ _ | refine Ext.setCell ?_ ?_ _ | refine Ext.trans ?_ (by assumption)))); all_goals (first | (simp; done) | (simp; omega)))) (fun hHeld => ?_)
  iterate 11 (apply SeqH.free; (· (simp only [List.getElem?_toArray, List.getElem?_cons_succ, List.getElem?_cons_zero]; rfl)); (· first | exact Or.inr ⟨by rfl, rfl⟩ | (refine Or.inl ⟨by rfl, ?_⟩; intro w hSw; (try dsimp only at hSw); go_simp; try with_reducible rfl)); try simp only [Act.put, List.setIfInBounds_toArray, List.set_cons_zero, List.set_cons_succ])
  (apply SeqH.step; (· (simp only [List.getElem?_toArray, List.getElem?_cons_succ, List.getElem?_cons_zero]; rfl)); intro K hK; go_simp; refine (rBoxes_any _ _ _ _ HR.out).mono ?_; rintro e w5 ⟨v5, rfl, hb5, hv5⟩; obtain ⟨g5, c5, rfl, hg1, hg2⟩ := hv5.pos (by rw [HN'.out]; omega); have hv := hv5.reads.pair_at HBA.out; have V0 := hv.1; have V1 := hv.2.1; have V2 := hv.2.2.1; have V3 := hv.2.2.2; rw [HN'.out]; clear hv hv5; go_wp2_with fail; refine hK.out _ _ (pr_of (by (with_reducible (repeat' (first | exact Ext.refl _ | assumption | refine Ext.drew ?_ | refine Ext.drewN ?_ _ | refine Ext.alloc ?_ _ | refine Ext.setCell ?_ ?_ _ | refine Ext.trans ?_ (by assumption)))); all_goals (first | (simp; done) | (simp; omega)))) (fun hHeld => ?_); clear hK K; try simp only [Act.put, List.setIfInBounds_toArray, List.set_cons_zero, List.set_cons_succ])
  iterate 1 (apply SeqH.free; (· (simp only [List.getElem?_toArray, List.getElem?_cons_succ, List.getElem?_cons_zero]; rfl)); (· first | exact Or.inr ⟨by rfl, rfl⟩ | (refine Or.inl ⟨by rfl, ?_⟩; intro w hSw; (try dsimp only at hSw); go_simp; try with_reducible rfl)); try simp only [Act.put, List.setIfInBounds_toArray, List.set_cons_zero, List.set_cons_succ])
  (apply SeqH.step; (· (simp only [List.getElem?_toArray, List.getElem?_cons_succ, List.getElem?_cons_zero]; rfl)); intro K hK; go_simp; refine hK.out _ _ (pr_of (by (with_reducible (repeat' (first | exact Ext.refl _ | assumption | refine Ext.drew ?_ | refine Ext.drewN ?_ _ | refine Ext.alloc ?_ _ | refine Ext.setCell ?_ ?_ _ | refine Ext.trans ?_ (by assumption)))); all_goals (first | (simp; done) | (simp; omega)))) (fun hHeld => ?_); clear hK K; try simp only [Act.put, List.setIfInBounds_toArray, List.set_cons_zero, List.set_cons_succ])
  (apply SeqH.step; (· (simp only [List.getElem?_toArray, List.getElem?_cons_succ, List.getElem?_cons_zero]; rfl)); intro K hK; go_simp; refine (HHAS.out _).mono ?_; rintro e w6 ⟨rfl, hb6⟩; go_wp2_with fail; refine hK.out _ _ (pr_of (by (with_reducible (repeat' (first | exact Ext.refl _ | assumption | refine Ext.drew ?_ | refine Ext.drewN ?_ _ | refine Ext.alloc ?_ _ | refine Ext.setCell ?_ ?_ _ | refine Ext.trans ?_ (by assumption)))); all_goals (first | (simp; done) | (simp; omega)))) (fun hHeld => ?_); clear hK K; try simp only [Act.put, List.setIfInBounds_toArray, List.set_cons_zero, List.set_cons_succ])
  iterate 2 (apply SeqH.free; (· (simp only [List.getElem?_toArray, List.getElem?_cons_succ, List.getElem?_cons_zero]; rfl)); (· first | exact Or.inr ⟨by rfl, rfl⟩ | (refine Or.inl ⟨by rfl, ?_⟩; intro w hSw; (try dsimp only at hSw); go_simp; try with_reducible rfl)); try simp only [Act.put, List.setIfInBounds_toArray, List.set_cons_zero, List.set_cons_succ])
  refine SeqH.done ?_
  have hx46 := hHeld.2
  obtain ⟨w7, hw7⟩ : ∃ z, z = w6 := ⟨_, rfl⟩
  rw [← hw7] at hx46 ⊢
  have X7 := hide (X4.out.trans hx46)
  have F0 := hide (E0.out.ext hx46)
  have F1 := hide (E1.out.ext hx46)
  have F2 := hide (E2.out.ext hx46)
  have A7 := hide (A4.out.ext hx46)
  have B7 := hide (B4.out.ext hx46)
  clear hHeld hb5 hb6 V0 V1 V2 V3 hg1 hg2 q0 q1 q2 qz r0 r1 r2 r3 rz E0 E1 E2 A4 B4 hw7 hx46 X4
  have q0 := F1.out.at 0 rfl; have q1 := F1.out.at 1 rfl; have q2 := F1.out.at 2 rfl; have qz := F1.out.lt
  have r0 := F2.out.at 0 rfl; have r1 := F2.out.at 1 rfl; have r2 := F2.out.at 2 rfl; have r3 := F2.out.at 3 rfl; have rz := F2.out.lt
  go_upto_region 11 with (fail)
  go_cut [13] (fun s13 wx => ∃ gb, s13 = .pointer (some ⟨gb, 0, none⟩) ∧ Blk wx gb 64 #[.int .i64 X, .int .i64 Y, .int .i64 BW, .int .i64 BH] ∧ Ext w7 wx)
  case first =>
    refine seqT_start (S := (fun W => (∀ b o, b < w7.heap.size → W.cell? ⟨b, o, none⟩ = w7.cell? ⟨b, o, none⟩) ∧ Ext w7 W)) (.take 0 (.take 1 (.take 2 (.take 3 (.take 5 (.take 6 (.step 4 (.take 7 (.step 8 (.step 9 (.step 10 .done .shut) .shut) (.step 9 (.step 8 (.step 10 .done .shut) .shut) .shut))) (.step 9 (.step 4 (.take 7 (.step 8 (.step 10 .done .shut) .shut)) .shut) .shut)))))))) (by kernel_rfl) (by kernel_rfl) (by kernel_rfl) (by decide) (fun _ _ d _ _ h => by cases d <;> exact h) (by first | with_reducible exact pr_start _ | exact pr_of (by (with_reducible (repeat' (first | exact Ext.refl _ | assumption | refine Ext.drew ?_ | refine Ext.drewN ?_ _ | refine Ext.alloc ?_ _ | refine Ext.setCell ?_ ?_ _ | refine Ext.trans ?_ (by assumption)))); all_goals (first | (simp; done) | (simp; omega)))) (fun hHeld => ?_)
    iterate 6 (apply SeqT.free; (· (simp only [List.getElem?_toArray, List.getElem?_cons_succ, List.getElem?_cons_zero]; rfl)); (· first | exact Or.inr ⟨by rfl, rfl⟩ | (refine Or.inl ⟨by rfl, ?_⟩; intro w hSw; (try dsimp only at hSw); go_simp; try with_reducible rfl)); try simp only [Act.put, List.setIfInBounds_toArray, List.set_cons_zero, List.set_cons_succ])
    (apply SeqT.step; (· (simp only [List.getElem?_toArray, List.getElem?_cons_succ, List.getElem?_cons_zero]; rfl)))
    (intro K hK; go_simp; refine (rBoxes_any _ _ _ _ HR.out).mono ?_; rintro e w5 ⟨v5, rfl, hb5, hv5⟩; obtain ⟨g5, c5, rfl, hg1, hg2⟩ := hv5.pos (by rw [HN'.out]; omega); have hv := hv5.reads.pair_at HBA.out; have V0 := hv.1; have V1 := hv.2.1; have V2 := hv.2.2.1; have V3 := hv.2.2.2; rw [HN'.out]; have X5 := hide (show Ext w7 w5 from (by (with_reducible (repeat' (first | exact Ext.refl _ | assumption | refine Ext.drew ?_ | refine Ext.drewN ?_ _ | refine Ext.alloc ?_ _ | refine Ext.setCell ?_ ?_ _ | refine Ext.trans ?_ (by assumption)))); all_goals (first | (simp; done) | (simp; omega)))); have zz5 := X5.out.size; (try replace DT := hide (DT.out.ext (show Ext _ w5 from (by (with_reducible (repeat' (first | exact Ext.refl _ | assumption | refine Ext.drew ?_ | refine Ext.drewN ?_ _ | refine Ext.alloc ?_ _ | refine Ext.setCell ?_ ?_ _ | refine Ext.trans ?_ (by assumption)))); all_goals (first | (simp; done) | (simp; omega)))))); clear hv hv5; go_wp2_with fail; refine hK.out _ _ (pr_of (by (with_reducible (repeat' (first | exact Ext.refl _ | assumption | refine Ext.drew ?_ | refine Ext.drewN ?_ _ | refine Ext.alloc ?_ _ | refine Ext.setCell ?_ ?_ _ | refine Ext.trans ?_ (by assumption)))); all_goals (first | (simp; done) | (simp; omega)))) (fun hHeld => ?_); clear hK K; (try simp only [Act.put, List.setIfInBounds_toArray, List.set_cons_zero, List.set_cons_succ]); (try have t0 := DT.out.at 0 rfl); (try have t1 := DT.out.at 1 rfl); (try have t2 := DT.out.at 2 rfl); (try have t3 := DT.out.at 3 rfl); (try have tf0 := DT.out.frozen 0); (try have tf1 := DT.out.frozen 1); (try have tf2 := DT.out.frozen 2); (try have tf3 := DT.out.frozen 3); (try have tz := DT.out.lt))
    iterate 1 (apply SeqT.free; (· (simp only [List.getElem?_toArray, List.getElem?_cons_succ, List.getElem?_cons_zero]; rfl)); (· first | exact Or.inr ⟨by rfl, rfl⟩ | (refine Or.inl ⟨by rfl, ?_⟩; intro w hSw; (try dsimp only at hSw); go_simp; try with_reducible rfl)); try simp only [Act.put, List.setIfInBounds_toArray, List.set_cons_zero, List.set_cons_succ])
    (apply SeqT.step; (· (simp only [List.getElem?_toArray, List.getElem?_cons_succ, List.getElem?_cons_zero]; rfl)))
    (intro K hK; go_simp; refine hK.out _ _ (pr_of (by (with_reducible (repeat' (first | exact Ext.refl _ | assumption | refine Ext.drew ?_ | refine Ext.drewN ?_ _ | refine Ext.alloc ?_ _ | refine Ext.setCell ?_ ?_ _ | refine Ext.trans ?_ (by assumption)))); all_goals (first | (simp; done) | (simp; omega)))) (fun hHeld => ?_); clear hK K; (try simp only [Act.put, List.setIfInBounds_toArray, List.set_cons_zero, List.set_cons_succ]))
    (apply SeqT.last; (· (simp only [List.getElem?_toArray, List.getElem?_cons_succ, List.getElem?_cons_zero]; rfl)))
    (intro K hK; go_simp; refine hK.out _ _ (pr_of (by (with_reducible (repeat' (first | exact Ext.refl _ | assumption | refine Ext.drew ?_ | refine Ext.drewN ?_ _ | refine Ext.alloc ?_ _ | refine Ext.setCell ?_ ?_ _ | refine Ext.trans ?_ (by assumption)))); all_goals (first | (simp; done) | (simp; omega)))) (fun hHeld => ?_); clear hK K; (try simp only [Act.put, List.setIfInBounds_toArray, List.set_cons_zero, List.set_cons_succ]); (first | refine SeqT.named ?_ (by assumption) | refine SeqT.namedD ?_ (by assumption)); intro w3 dt hx3 hz3 hS3; (try simp only [World.size_drew, World.size_alloc] at dt hz3); have DT := hide dt; clear dt hHeld; (try replace V0 := (hx3.cell (p := ⟨g5, _, none⟩) hg2).trans V0); (try replace V1 := (hx3.cell (p := ⟨g5, _, none⟩) hg2).trans V1); (try replace V2 := (hx3.cell (p := ⟨g5, _, none⟩) hg2).trans V2); (try replace V3 := (hx3.cell (p := ⟨g5, _, none⟩) hg2).trans V3); (try replace hg2 := Nat.lt_of_lt_of_le hg2 hx3.size); have t0 := DT.out.at 0 rfl; have t1 := DT.out.at 1 rfl; have t2 := DT.out.at 2 rfl; have t3 := DT.out.at 3 rfl; have tf0 := DT.out.frozen 0; have tf1 := DT.out.frozen 1; have tf2 := DT.out.frozen 2; have tf3 := DT.out.frozen 3; have tz := DT.out.lt)
    (apply SeqT.last; (· (simp only [List.getElem?_toArray, List.getElem?_cons_succ, List.getElem?_cons_zero]; rfl)))
    (intro K hK; go_simp; refine hK.out _ _ (pr_of (by (with_reducible (repeat' (first | exact Ext.refl _ | assumption | refine Ext.drew ?_ | refine Ext.drewN ?_ _ | refine Ext.alloc ?_ _ | refine Ext.setCell ?_ ?_ _ | refine Ext.trans ?_ (by assumption)))); all_goals (first | (simp; done) | (simp; omega)))) (fun hHeld => ?_); clear hK K; (try simp only [Act.put, List.setIfInBounds_toArray, List.set_cons_zero, List.set_cons_succ]))
    refine SeqT.fin ?_
    rotate_left
    (apply SeqT.last; (· (simp only [List.getElem?_toArray, List.getElem?_cons_succ, List.getElem?_cons_zero]; rfl)))
    (intro K hK; go_simp; refine hK.out _ _ (pr_of (by (with_reducible (repeat' (first | exact Ext.refl _ | assumption | refine Ext.drew ?_ | refine Ext.drewN ?_ _ | refine Ext.alloc ?_ _ | refine Ext.setCell ?_ ?_ _ | refine Ext.trans ?_ (by assumption)))); all_goals (first | (simp; done) | (simp; omega)))) (fun hHeld => ?_); clear hK K; (try simp only [Act.put, List.setIfInBounds_toArray, List.set_cons_zero, List.set_cons_succ]); (first | refine SeqT.named ?_ (by assumption) | refine SeqT.namedD ?_ (by assumption)); intro w3 dt hx3 hz3 hS3; (try simp only [World.size_drew, World.size_alloc] at dt hz3); have DT := hide dt; clear dt hHeld; (try replace V0 := (hx3.cell (p := ⟨g5, _, none⟩) hg2).trans V0); (try replace V1 := (hx3.cell (p := ⟨g5, _, none⟩) hg2).trans V1); (try replace V2 := (hx3.cell (p := ⟨g5, _, none⟩) hg2).trans V2); (try replace V3 := (hx3.cell (p := ⟨g5, _, none⟩) hg2).trans V3); (try replace hg2 := Nat.lt_of_lt_of_le hg2 hx3.size); have t0 := DT.out.at 0 rfl; have t1 := DT.out.at 1 rfl; have t2 := DT.out.at 2 rfl; have t3 := DT.out.at 3 rfl; have tf0 := DT.out.frozen 0; have tf1 := DT.out.frozen 1; have tf2 := DT.out.frozen 2; have tf3 := DT.out.frozen 3; have tz := DT.out.lt)
    (apply SeqT.last; (· (simp only [List.getElem?_toArray, List.getElem?_cons_succ, List.getElem?_cons_zero]; rfl)))
    (intro K hK; go_simp; refine hK.out _ _ (pr_of (by (with_reducible (repeat' (first | exact Ext.refl _ | assumption | refine Ext.drew ?_ | refine Ext.drewN ?_ _ | refine Ext.alloc ?_ _ | refine Ext.setCell ?_ ?_ _ | refine Ext.trans ?_ (by assumption)))); all_goals (first | (simp; done) | (simp; omega)))) (fun hHeld => ?_); clear hK K; (try simp only [Act.put, List.setIfInBounds_toArray, List.set_cons_zero, List.set_cons_succ]))
    (apply SeqT.last; (· (simp only [List.getElem?_toArray, List.getElem?_cons_succ, List.getElem?_cons_zero]; rfl)))
    (intro K hK; go_simp; refine hK.out _ _ (pr_of (by (with_reducible (repeat' (first | exact Ext.refl _ | assumption | refine Ext.drew ?_ | refine Ext.drewN ?_ _ | refine Ext.alloc ?_ _ | refine Ext.setCell ?_ ?_ _ | refine Ext.trans ?_ (by assumption)))); all_goals (first | (simp; done) | (simp; omega)))) (fun hHeld => ?_); clear hK K; (try simp only [Act.put, List.setIfInBounds_toArray, List.set_cons_zero, List.set_cons_succ]))
    refine SeqT.fin ?_
    rotate_left
    (apply SeqT.last; (· (simp only [List.getElem?_toArray, List.getElem?_cons_succ, List.getElem?_cons_zero]; rfl)))
    (intro K hK; go_simp; refine hK.out _ _ (pr_of (by (with_reducible (repeat' (first | exact Ext.refl _ | assumption | refine Ext.drew ?_ | refine Ext.drewN ?_ _ | refine Ext.alloc ?_ _ | refine Ext.setCell ?_ ?_ _ | refine Ext.trans ?_ (by assumption)))); all_goals (first | (simp; done) | (simp; omega)))) (fun hHeld => ?_); clear hK K; (try simp only [Act.put, List.setIfInBounds_toArray, List.set_cons_zero, List.set_cons_succ]); (first | refine SeqT.named ?_ (by assumption) | refine SeqT.namedD ?_ (by assumption)); intro w3 dt hx3 hz3 hS3; (try simp only [World.size_drew, World.size_alloc] at dt hz3); have DT := hide dt; clear dt hHeld; (try replace V0 := (hx3.cell (p := ⟨g5, _, none⟩) hg2).trans V0); (try replace V1 := (hx3.cell (p := ⟨g5, _, none⟩) hg2).trans V1); (try replace V2 := (hx3.cell (p := ⟨g5, _, none⟩) hg2).trans V2); (try replace V3 := (hx3.cell (p := ⟨g5, _, none⟩) hg2).trans V3); (try replace hg2 := Nat.lt_of_lt_of_le hg2 hx3.size); have t0 := DT.out.at 0 rfl; have t1 := DT.out.at 1 rfl; have t2 := DT.out.at 2 rfl; have t3 := DT.out.at 3 rfl; have tf0 := DT.out.frozen 0; have tf1 := DT.out.frozen 1; have tf2 := DT.out.frozen 2; have tf3 := DT.out.frozen 3; have tz := DT.out.lt)
    (apply SeqT.last; (· (simp only [List.getElem?_toArray, List.getElem?_cons_succ, List.getElem?_cons_zero]; rfl)))
    (intro K hK; go_simp; refine (rBoxes_any _ _ _ _ HR.out).mono ?_; rintro e w5 ⟨v5, rfl, hb5, hv5⟩; obtain ⟨g5, c5, rfl, hg1, hg2⟩ := hv5.pos (by rw [HN'.out]; omega); have hv := hv5.reads.pair_at HBA.out; have V0 := hv.1; have V1 := hv.2.1; have V2 := hv.2.2.1; have V3 := hv.2.2.2; rw [HN'.out]; have X5 := hide (show Ext w7 w5 from (by (with_reducible (repeat' (first | exact Ext.refl _ | assumption | refine Ext.drew ?_ | refine Ext.drewN ?_ _ | refine Ext.alloc ?_ _ | refine Ext.setCell ?_ ?_ _ | refine Ext.trans ?_ (by assumption)))); all_goals (first | (simp; done) | (simp; omega)))); have zz5 := X5.out.size; (try replace DT := hide (DT.out.ext (show Ext _ w5 from (by (with_reducible (repeat' (first | exact Ext.refl _ | assumption | refine Ext.drew ?_ | refine Ext.drewN ?_ _ | refine Ext.alloc ?_ _ | refine Ext.setCell ?_ ?_ _ | refine Ext.trans ?_ (by assumption)))); all_goals (first | (simp; done) | (simp; omega)))))); clear hv hv5; go_wp2_with fail; refine hK.out _ _ (pr_of (by (with_reducible (repeat' (first | exact Ext.refl _ | assumption | refine Ext.drew ?_ | refine Ext.drewN ?_ _ | refine Ext.alloc ?_ _ | refine Ext.setCell ?_ ?_ _ | refine Ext.trans ?_ (by assumption)))); all_goals (first | (simp; done) | (simp; omega)))) (fun hHeld => ?_); clear hK K; (try simp only [Act.put, List.setIfInBounds_toArray, List.set_cons_zero, List.set_cons_succ]); (try have t0 := DT.out.at 0 rfl); (try have t1 := DT.out.at 1 rfl); (try have t2 := DT.out.at 2 rfl); (try have t3 := DT.out.at 3 rfl); (try have tf0 := DT.out.frozen 0); (try have tf1 := DT.out.frozen 1); (try have tf2 := DT.out.frozen 2); (try have tf3 := DT.out.frozen 3); (try have tz := DT.out.lt))
    iterate 1 (apply SeqT.free; (· (simp only [List.getElem?_toArray, List.getElem?_cons_succ, List.getElem?_cons_zero]; rfl)); (· first | exact Or.inr ⟨by rfl, rfl⟩ | (refine Or.inl ⟨by rfl, ?_⟩; intro w hSw; (try dsimp only at hSw); go_simp; try with_reducible rfl)); try simp only [Act.put, List.setIfInBounds_toArray, List.set_cons_zero, List.set_cons_succ])
    (apply SeqT.last; (· (simp only [List.getElem?_toArray, List.getElem?_cons_succ, List.getElem?_cons_zero]; rfl)))
    (intro K hK; go_simp; refine hK.out _ _ (pr_of (by (with_reducible (repeat' (first | exact Ext.refl _ | assumption | refine Ext.drew ?_ | refine Ext.drewN ?_ _ | refine Ext.alloc ?_ _ | refine Ext.setCell ?_ ?_ _ | refine Ext.trans ?_ (by assumption)))); all_goals (first | (simp; done) | (simp; omega)))) (fun hHeld => ?_); clear hK K; (try simp only [Act.put, List.setIfInBounds_toArray, List.set_cons_zero, List.set_cons_succ]))
    (apply SeqT.last; (· (simp only [List.getElem?_toArray, List.getElem?_cons_succ, List.getElem?_cons_zero]; rfl)))
    (intro K hK; go_simp; refine hK.out _ _ (pr_of (by (with_reducible (repeat' (first | exact Ext.refl _ | assumption | refine Ext.drew ?_ | refine Ext.drewN ?_ _ | refine Ext.alloc ?_ _ | refine Ext.setCell ?_ ?_ _ | refine Ext.trans ?_ (by assumption)))); all_goals (first | (simp; done) | (simp; omega)))) (fun hHeld => ?_); clear hK K; (try simp only [Act.put, List.setIfInBounds_toArray, List.set_cons_zero, List.set_cons_succ]))
    refine SeqT.fin ?_
    all_goals
      have hSx := hHeld.2
      go_wp2_with fail
      go_meet
      case rel => exact ⟨_, rfl, (((DT.out.set_ 0 _).set_ 1 _).set_ 2 _).set_ 3 _, hSx⟩
  case rest =>
    obtain ⟨gb, rfl, hG, hxc⟩ := hcut
    have BG := hide hG
    have X8 := hide (X7.out.trans hxc)
    have G0 := hide (F0.out.ext hxc)
    have G2 := hide (F2.out.ext hxc)
    have A8 := hide (A7.out.ext hxc)
    have B8 := hide (B7.out.ext hxc)
    clear q0 q1 q2 qz r0 r1 r2 r3 rz F0 F1 F2 A7 B7 hxc X7 hG
    go_wp2_with fail
    go_loopw [14, 15] (fun ov iv wr => ∃ k : Nat, k ≤ m ∧ iv = .int .i64 k ∧ Own u64E wr wc.heap.size 38 ov ((cs.take k).map F) ∧ Ext wc wr) (fun _ iv _ => m - (intOf iv).toNat)
    case atStart => exact ⟨0, Nat.zero_le _, rfl, Own.lit0 u64E wc _ _ _ rfl (Nat.le_refl _), (Ext.refl _).alloc _⟩
    case round =>
      obtain ⟨k, hk, rfl, ho, hx⟩ := hrel
      have O := hide ho
      have XR := hide hx
      have hzr := hx.size
      have J0 := hide (G0.out.ext hx)
      have J2 := hide (G2.out.ext hx)
      have JG := hide (BG.out.ext hx)
      by_cases hlt : k < m
      · obtain ⟨q, hq⟩ : ∃ q, cs[k]? = some q := ⟨_, List.getElem?_eq_getElem (by rw [HMM.out]; exact hlt)⟩
        obtain ⟨b, off, rfl, hb, hcc⟩ := HC.out (by rw [HMM.out]; omega)
        obtain ⟨hkl, hql⟩ := List.getElem?_eq_some_iff.1 hq
        have h1 := hcc k hkl
        rw [hql] at h1
        have d0 := ((X8.out.trans hx).cell (p := ⟨b, off + k * 2, none⟩) hb).trans h1.1
        have d1 := ((X8.out.trans hx).cell (p := ⟨b, off + k * 2 + 1, none⟩) hb).trans h1.2
        have HT9 := hide (take_map cs F hq)
        have HQM := hide (List.mem_of_getElem? hq)
        have HLL := hide (show ((cs.take k).map F).length = k by rw [List.length_map, List.length_take, HMM.out]; omega)
        have HMN : Hid (min k cs.length = k) := hide (by rw [HMM.out]; omega)
        have S0 := hide (show CellsAt [(⟨w.heap.size, 0, none⟩, .int .i64 PW), (⟨w.heap.size, 1, none⟩, .int .i64 PH), (⟨w.heap.size, 2, none⟩, .slice a n c), (⟨gb, 0, none⟩, .int .i64 X), (⟨gb, 1, none⟩, .int .i64 Y), (⟨gb, 2, none⟩, .int .i64 BW), (⟨gb, 3, none⟩, .int .i64 BH), (⟨w.heap.size + 1 + 1, 1, none⟩, .slice (some ⟨b, off, none⟩) m cc), (⟨w.heap.size + 1 + 1, 2, none⟩, .int .i64 tx), (⟨w.heap.size + 1 + 1, 3, none⟩, .int .i64 ty), (⟨b, off + k * 2, none⟩, .int .i64 q.1), (⟨b, off + k * 2 + 1, none⟩, .int .i64 q.2)] wr from
          ⟨J0.out.at 0 rfl, J0.out.at 1 rfl, J0.out.at 2 rfl, JG.out.at 0 rfl, JG.out.at 1 rfl, JG.out.at 2 rfl, JG.out.at 3 rfl, J2.out.at 1 rfl, J2.out.at 2 rfl, J2.out.at 3 rfl, d0, d1, trivial⟩)
        have zb : b < w.heap.size := hb
        have zg : gb < wc.heap.size := BG.out.lt
        have zw : w.heap.size + 1 + 1 < wc.heap.size := G2.out.lt
        have jk : (k : Int) < (m : Int) := by omega
        have hj2 := J2.out.at 1 rfl
        have hj2z := J2.out.lt
        clear hq hcc hkl hql h1 d0 d1 hx ho
        go_wp2_with fail
        clear hj2 hj2z
        refine seqH_start (S := (CellsAt [(⟨w.heap.size, 0, none⟩, .int .i64 PW), (⟨w.heap.size, 1, none⟩, .int .i64 PH), (⟨w.heap.size, 2, none⟩, .slice a n c), (⟨gb, 0, none⟩, .int .i64 X), (⟨gb, 1, none⟩, .int .i64 Y), (⟨gb, 2, none⟩, .int .i64 BW), (⟨gb, 3, none⟩, .int .i64 BH), (⟨w.heap.size + 1 + 1, 1, none⟩, .slice (some ⟨b, off, none⟩) m cc), (⟨w.heap.size + 1 + 1, 2, none⟩, .int .i64 tx), (⟨w.heap.size + 1 + 1, 3, none⟩, .int .i64 ty), (⟨b, off + k * 2, none⟩, .int .i64 q.1), (⟨b, off + k * 2 + 1, none⟩, .int .i64 q.2)])) [(0, true), (1, true), (2, true), (3, true), (4, true), (5, true), (6, true), (7, true), (8, true), (9, true), (10, false), (11, false), (12, true), (13, false), (14, false), (15, false), (16, true)] (by kernel_rfl) (by kernel_rfl) (by kernel_rfl) (by decide) (fun _ _ d _ _ h => by cases d <;> exact h) (CellsAt.ext ((Ext.refl _).drew) S0.out) (fun hHeld => ?_)
        iterate 10 (apply SeqH.free; (· (simp only [List.getElem?_toArray, List.getElem?_cons_succ, List.getElem?_cons_zero]; rfl)); (· first | exact Or.inr ⟨by rfl, rfl⟩ | (refine Or.inl ⟨by rfl, ?_⟩; intro w hSw; (try dsimp only at hSw); simp only [CellsAt] at hSw; go_simp; try with_reducible rfl)); try simp only [Act.put, List.setIfInBounds_toArray, List.set_cons_zero, List.set_cons_succ])
        (apply SeqH.step; (· (simp only [List.getElem?_toArray, List.getElem?_cons_succ, List.getElem?_cons_zero]; rfl)); intro K hK; go_simp; refine hK.out _ _ ((CellsAt.ext (by (with_reducible (repeat' (first | exact Ext.refl _ | assumption | refine Ext.drew ?_ | refine Ext.drewN ?_ _ | refine Ext.alloc ?_ _ | refine Ext.setCell ?_ ?_ _ | refine Ext.trans ?_ (by assumption)))); all_goals (first | (simp; done) | (simp; omega))) S0.out)) (fun hHeld => ?_); clear hK K; try simp only [Act.put, List.setIfInBounds_toArray, List.set_cons_zero, List.set_cons_succ])
        (apply SeqH.step; (· (simp only [List.getElem?_toArray, List.getElem?_cons_succ, List.getElem?_cons_zero]; rfl)); intro K hK; go_simp; refine (HV.out _ (X8.out.trans (XR.out.trans (by (with_reducible (repeat' (first | exact Ext.refl _ | assumption | refine Ext.drew ?_ | refine Ext.drewN ?_ _ | refine Ext.alloc ?_ _ | refine Ext.setCell ?_ ?_ _ | refine Ext.trans ?_ (by assumption)))); all_goals (first | (simp; done) | (simp; omega))))) _ (by (repeat' (first | exact Blk.new_ (by simp) | refine Blk.drew ?_ | refine Blk.over ?_))) q HQM.out).mono ?_; rintro e w6 ⟨v6, rfl, hx6, ho6⟩; obtain ⟨g6, c6, rfl, hg1, hg2⟩ := ho6.pos (by simp); have U0 := u64_head ho6; simp only [List.length_singleton]; have hx06 : Ext wr w6 := (by (with_reducible (repeat' (first | exact Ext.refl _ | assumption | refine Ext.drew ?_ | refine Ext.drewN ?_ _ | refine Ext.alloc ?_ _ | refine Ext.setCell ?_ ?_ _ | refine Ext.trans ?_ (by assumption)))); all_goals (first | (simp; done) | (simp; omega))); have S6 := hide (CellsAt.ext hx06 S0.out); have O6 := hide (O.out.ext hx06); have X6 := hide (XR.out.trans hx06); have zz6 := X6.out.size; clear hx6 ho6 hx06; go_wp2_with fail; refine hK.out _ _ (S6.out) (fun hHeld => ?_); clear hK K; try simp only [Act.put, List.setIfInBounds_toArray, List.set_cons_zero, List.set_cons_succ])
        iterate 1 (apply SeqH.free; (· (simp only [List.getElem?_toArray, List.getElem?_cons_succ, List.getElem?_cons_zero]; rfl)); (· first | exact Or.inr ⟨by rfl, rfl⟩ | (refine Or.inl ⟨by rfl, ?_⟩; intro w hSw; (try dsimp only at hSw); simp only [CellsAt] at hSw; go_simp; try with_reducible rfl)); try simp only [Act.put, List.setIfInBounds_toArray, List.set_cons_zero, List.set_cons_succ])
        (apply SeqH.step; (· (simp only [List.getElem?_toArray, List.getElem?_cons_succ, List.getElem?_cons_zero]; rfl)); intro K hK; go_simp; refine hK.out _ _ (S6.out) (fun hHeld => ?_); clear hK K; try simp only [Act.put, List.setIfInBounds_toArray, List.set_cons_zero, List.set_cons_succ])
        (apply SeqH.step; (· (simp only [List.getElem?_toArray, List.getElem?_cons_succ, List.getElem?_cons_zero]; rfl)); intro K hK; go_simp; refine hK.out _ _ ((CellsAt.ext (by (with_reducible (repeat' (first | exact Ext.refl _ | assumption | refine Ext.drew ?_ | refine Ext.drewN ?_ _ | refine Ext.alloc ?_ _ | refine Ext.setCell ?_ ?_ _ | refine Ext.trans ?_ (by assumption)))); all_goals (first | (simp; done) | (simp; omega))) S6.out)) (fun hHeld => ?_); clear hK K; try simp only [Act.put, List.setIfInBounds_toArray, List.set_cons_zero, List.set_cons_succ])
        (apply SeqH.step; (· (simp only [List.getElem?_toArray, List.getElem?_cons_succ, List.getElem?_cons_zero]; rfl)); intro K hK; refine step_app_at u64E T_u64s (by rfl) _ _ (by rfl) wc.heap.size w6 _ _ (by rfl) O6.out (F q) _ _ (by rfl) _ (by rfl) (by rfl) (by rw [HLL.out]; omega) (by rw [HLL.out]; omega) (by omega) ?_; intro g9 c9 w9 o9 t9 l9; have O9 := hide o9; have S9 := hide (CellsAt.touch t9 (fun p hp h => (by have hl := (own_lt O6.out h).1; simp only [List.mem_cons, List.not_mem_nil, or_false] at hp; rcases hp with rfl | rfl | rfl | rfl | rfl | rfl | rfl | rfl | rfl | rfl | rfl | rfl <;> simp only at hl <;> omega)) S6.out); have X9 := hide (((Touch.of_ext (S := fun _ => False) X6.out).after t9 (fun k hk h => by have := (own_lt O6.out h).1; omega)).ext); clear o9 t9 l9; refine hK.out _ _ (S9.out) (fun hHeld => ?_); clear hK K; try simp only [Act.put, List.setIfInBounds_toArray, List.set_cons_zero, List.set_cons_succ])
        iterate 1 (apply SeqH.free; (· (simp only [List.getElem?_toArray, List.getElem?_cons_succ, List.getElem?_cons_zero]; rfl)); (· first | exact Or.inr ⟨by rfl, rfl⟩ | (refine Or.inl ⟨by rfl, ?_⟩; intro w hSw; (try dsimp only at hSw); simp only [CellsAt] at hSw; go_simp; try with_reducible rfl)); try simp only [Act.put, List.setIfInBounds_toArray, List.set_cons_zero, List.set_cons_succ])
        refine SeqH.done ?_
        clear hHeld
        go_wp2_with fail
        go_roundw
        case rel => exact ⟨k + 1, hlt, by go_num, by have h := O9.out; rw [HT9.out]; rw [HLL.out] at h; (try rw [HLL.out]); (try rw [HMN.out]); exact h, X9.out⟩
        case measure => simp [intOf]; omega
      · obtain rfl : k = m := by omega
        have HTK : Hid (cs.take k = cs) := hide (List.take_of_length_le (by rw [HMM.out]; exact Nat.le_refl _))
        rw [HTK.out, HR2.out] at ho
        obtain ⟨oa, oc, rfl⟩ := ho.slice
        rw [HL2.out] at ho ⊢
        have OR := hide ho.reads.rowU.2
        have AR := hide (A8.out.ext hx)
        have BR := hide (B8.out.ext hx)
        have XW := hide (X8.out.trans hx)
        have p0 := J0.out.at 0 rfl; have p1 := J0.out.at 1 rfl; have p2 := J0.out.at 2 rfl; have pz := J0.out.lt
        have g0 := JG.out.at 0 rfl; have g1 := JG.out.at 1 rfl; have g2 := JG.out.at 2 rfl; have g3 := JG.out.at 3 rfl; have gz := JG.out.lt
        have r0 := J2.out.at 0 rfl; have r1 := J2.out.at 1 rfl; have r2 := J2.out.at 2 rfl; have r3 := J2.out.at 3 rfl; have rz := J2.out.lt
        clear ho hx O
        go_wp2_with fail
        refine (HW.out _ (XW.out.trans (by (with_reducible (repeat' (first | exact Ext.refl _ | assumption | refine Ext.drew ?_ | refine Ext.drewN ?_ _ | refine Ext.alloc ?_ _ | refine Ext.setCell ?_ ?_ _ | refine Ext.trans ?_ (by assumption)))); all_goals (first | (simp; done) | (simp; omega))))).mono ?_
        rintro e w9 ⟨v9, rfl, hb9, ho9⟩
        obtain ⟨va, vc, rfl⟩ := ho9.slice
        rw [HL1.out] at ho9 ⊢
        have OV := hide ho9.reads.rowU.2
        clear ho9
        go_wp2_with fail
        refine (HS1.out _ s1 va s3 vc (AR.out.ext (by (with_reducible (repeat' (first | exact Ext.refl _ | assumption | refine Ext.drew ?_ | refine Ext.drewN ?_ _ | refine Ext.alloc ?_ _ | refine Ext.setCell ?_ ?_ _ | refine Ext.trans ?_ (by assumption)))); all_goals (first | (simp; done) | (simp; omega)))) (OV.out.ext (by (with_reducible (repeat' (first | exact Ext.refl _ | assumption | refine Ext.drew ?_ | refine Ext.drewN ?_ _ | refine Ext.alloc ?_ _ | refine Ext.setCell ?_ ?_ _ | refine Ext.trans ?_ (by assumption)))); all_goals (first | (simp; done) | (simp; omega))))).mono ?_
        rintro e w10 ⟨rfl, hb10⟩
        go_wp2_with fail
        refine (HS2.out _ t1 oa t3 oc (BR.out.ext (by (with_reducible (repeat' (first | exact Ext.refl _ | assumption | refine Ext.drew ?_ | refine Ext.drewN ?_ _ | refine Ext.alloc ?_ _ | refine Ext.setCell ?_ ?_ _ | refine Ext.trans ?_ (by assumption)))); all_goals (first | (simp; done) | (simp; omega)))) (OR.out.ext (by (with_reducible (repeat' (first | exact Ext.refl _ | assumption | refine Ext.drew ?_ | refine Ext.drewN ?_ _ | refine Ext.alloc ?_ _ | refine Ext.setCell ?_ ?_ _ | refine Ext.trans ?_ (by assumption)))); all_goals (first | (simp; done) | (simp; omega))))).mono ?_
        rintro e w11 ⟨rfl, hb11⟩
        go_wp2_with (go_at_call 24; refine (awake13_any _).mono ?_; rintro e w12 ⟨rfl, hb12⟩)
        go_ret
        exact ⟨rfl, XW.out.trans (by (with_reducible (repeat' (first | exact Ext.refl _ | assumption | refine Ext.drew ?_ | refine Ext.drewN ?_ _ | refine Ext.alloc ?_ _ | refine Ext.setCell ?_ ?_ _ | refine Ext.trans ?_ (by assumption)))); all_goals (first | (simp; done) | (simp; omega)))⟩

theorem innerTo_any {w : World} (W H : Int) (a : Option Addr) (l : List Int) (c : Nat) (PW PH s id : Int) (ca : Option Addr) (cs : List Cell) (cc : Nat) (tx ty : Int) (hr : Row16 w a l) (hu : U16s l) (hc : RowC w ca cs) (hi : ∀ p ∈ cs, InI p.1 ∧ InI p.2) (ix : InI tx) (iy : InI ty) :
    Calls Try.prog 6 #[.agg #[.int .i64 W, .int .i64 H, .slice a l.length c], .agg #[.int .i64 PW, .int .i64 PH, .int .i64 s], .agg #[.int .i64 id, .slice ca cs.length cc, .int .i64 tx, .int .i64 ty]] w fun e w' => e = .returned (.bool true) ∧ Ext w w' := by
  cases h : (decide (l.length ≤ 260) && decide (cs.length ≤ 60))
  · exact it_far W H a l.length c PW PH s id ca cs.length cc tx ty h
  · have hl : cs.length ≤ 1000000 := by simp at h; omega
    by_cases he : innerE W H l.length PW PH s id cs = 0
    · cases hh : hasB (boxX W s id) (boxY W s id) (boxW W s id) (boxH W H s id) tx ty
      · exact it_bad2 c cc tx ty hr hu hc hl hi ix iy h he hh
      · exact it_ok c cc tx ty hr hu hc hl hi ix iy h he hh
    · exact it_bad1 W H a l c PW PH s id ca cs cc tx ty hc hl hi h he
end Go.Proofs.Ytifbmapianddcaa

/- Arguments that came in as data, opened: structs of numbers by value. -/
namespace Go.Proofs.Ytifbmapianddcaa
open Go.RowKit Go.ChangeShapes Go.WideShapes Go.ChangeAt

section
variable {H : Type} {enc : TypeId × Value → H} {w : World} {r : Reach} {base b0 : Nat} {spare : Nat → Bool} {held : Bool}

theorem InI_wf {n : Int} (h : (Lit.int .i64 n).wf = true) : InI n := by
  have hmin : IntKind.i64.min = -9223372036854775808 := rfl
  have hmax : IntKind.i64.max = 9223372036854775807 := rfl
  simp only [Lit.wf, Bool.and_eq_true, decide_eq_true_eq] at h
  unfold InI; omega

theorem one_int {fuel : Nat} {v : Value} {x : DataW H × List MemPlace} (h : DataW.trod enc Try.prog w base spare held fuel 3 [v] = some x) : ∃ n, v = .int .i64 n ∧ InI n := by
  obtain ⟨n, hc, _, hw⟩ := DataW.trod_int Try.underlying3 h
  simp at hc
  exact ⟨n, hc, InI_wf hw⟩

theorem trod_two {t : TypeId} {f0 f1 : Field} {fuel : Nat} {c0 c1 : Value} {x : DataW H × List MemPlace} (ht : Try.prog.underlying t = some (.struct #[f0, f1])) (e0 : f0.type = 3 ∧ f0.offset = 0) (e1 : f1.type = 3 ∧ f1.offset = 1) (h : DataW.trod enc Try.prog w base spare held fuel t [c0, c1] = some x) :
    ∃ a b, c0 = .int .i64 a ∧ c1 = .int .i64 b ∧ InI a ∧ InI b := by
  obtain ⟨xs, n, _, _, _, hlen, hf⟩ := DataW.trod_struct ht h
  have hc : Try.prog.cellsOf 3 = 1 := by kernel_rfl
  match xs, hlen with
  | [y0, y1], _ =>
    have h0 := hf 0 f0 rfl
    have h1 := hf 1 f1 rfl
    rw [e0.1, e0.2, hc] at h0
    rw [e1.1, e1.2, hc] at h1
    obtain ⟨a, rfl, ha⟩ := one_int h0
    obtain ⟨b, rfl, hb⟩ := one_int h1
    exact ⟨a, b, rfl, rfl, ha, hb⟩

set_option maxRecDepth 100000 in
theorem cells_cell : Try.prog.cellsOf 28 = 2 := by kernel_rfl
set_option maxRecDepth 100000 in
theorem cells_size : Try.prog.cellsOf 23 = 2 := by kernel_rfl

set_option maxRecDepth 100000 in
theorem open_cell {v : Value} {d : DataW H} {p : List MemPlace} (hv : Value.okWide Try.prog w r b0 28 v) (h : DataW.Trod enc Try.prog w base spare held 28 v d p) : ∃ x y, v = .agg #[.int .i64 x, .int .i64 y] ∧ InI x ∧ InI y := by
  obtain ⟨cs, rfl, hsz⟩ := okWide_struct Try.underlying28 hv
  obtain ⟨l⟩ := cs
  rw [cells_cell] at hsz
  match l, hsz with
  | [c0, c1], _ =>
    obtain ⟨fuel, hf⟩ := h
    obtain ⟨a, b, rfl, rfl, ha, hb⟩ := trod_two Try.underlying28 ⟨rfl, rfl⟩ ⟨rfl, rfl⟩ hf
    exact ⟨a, b, rfl, ha, hb⟩

set_option maxRecDepth 100000 in
theorem cells_parts : Try.prog.cellsOf 51 = 3 := by kernel_rfl
set_option maxRecDepth 100000 in
theorem open_parts {v : Value} {d : DataW H} {p : List MemPlace} (hv : Value.okWide Try.prog w r b0 51 v) (h : DataW.Trod enc Try.prog w base spare held 51 v d p) : ∃ x y z, v = .agg #[.int .i64 x, .int .i64 y, .int .i64 z] ∧ InI x ∧ InI y ∧ InI z := by
  obtain ⟨cs, rfl, hsz⟩ := okWide_struct Try.underlying51 hv
  obtain ⟨l⟩ := cs
  rw [cells_parts] at hsz
  match l, hsz with
  | [c0, c1, c2], _ =>
    obtain ⟨fuel, hf⟩ := h
    obtain ⟨xs, n, _, _, _, hlen, hf⟩ := DataW.trod_struct Try.underlying51 hf
    match xs, hlen with
    | [y0, y1], _ =>
      have h0 := hf 0 _ rfl
      have h1 := hf 1 _ rfl
      obtain ⟨a, b, rfl, rfl, ha, hb⟩ := trod_two (c0 := c0) (c1 := c1) Try.underlying23 ⟨rfl, rfl⟩ ⟨rfl, rfl⟩ h0
      obtain ⟨c, rfl, hc⟩ := one_int (v := c2) h1
      exact ⟨a, b, c, rfl, ha, hb, hc⟩
end
theorem own : ownKnob Try.prog.godebug = none := by kernel_rfl
theorem laidOut : laidOutB Try.prog = true := by kernel_rfl
end Go.Proofs.Ytifbmapianddcaa

/- Arguments that came in as data, opened: fields of costs, and arrays of two numbers. -/
namespace Go.Proofs.Ytifbmapianddcaa
open Go.RowKit Go.ChangeShapes Go.WideShapes Go.ChangeAt

section
variable {H : Type} {enc : TypeId × Value → H} {w : World} {r : Reach} {base b0 : Nat} {spare : Nat → Bool} {held : Bool}

/-- What came in as a field. -/
def FieldV (w : World) (W Hh : Int) (a : Option Addr) (l : List Int) : Prop := InI W ∧ InI Hh ∧ (l.length : Int) ≤ 9223372036854775807 ∧ Row16 w a l ∧ U16s l

set_option maxRecDepth 100000 in
theorem cells_field : Try.prog.cellsOf 26 = 3 := by kernel_rfl
set_option maxRecDepth 100000 in
theorem cells_u16 : Try.prog.cellsOf 46 = 1 := by kernel_rfl

theorem row16_of {a : Addr} {len : Nat} {zs : List Int} (hlen : len ≤ zs.length) (hc : ∀ i, i < zs.length → w.cell? (a.add i) = some (.int .u16 (zs.getD i 0))) (hw : ∀ n ∈ zs, (Lit.int .u16 n).wf = true) : (zs.take len).length = len ∧ Row16 w (some a) (zs.take len) ∧ U16s (zs.take len) := by
  have hl : (zs.take len).length = len := by rw [List.length_take]; omega
  refine ⟨hl, fun h0 => ?_, fun x hx => ?_⟩
  · obtain ⟨b, off, spot⟩ := a
    have z0 := hc 0 (by omega)
    have hspot : spot = none := by simpa [Addr.add] using World.cell?_spot z0
    subst hspot
    have z0' : w.cell? ⟨b, off, none⟩ = some (.int .u16 (zs.getD 0 0)) := by simpa [Addr.add] using z0
    refine ⟨b, off, rfl, World.block_lt_of_cell? w _ z0', fun k hk => ?_⟩
    have := hc k (by omega)
    rw [Addr.add_lit] at this
    rw [this]
    have hk' : k < zs.length := by omega
    simp [List.getD_eq_getElem?_getD, hk']
  · have hmem : x ∈ zs := List.mem_of_mem_take hx
    have h := hw x hmem
    have hmin : IntKind.u16.min = 0 := rfl
    have hmax : IntKind.u16.max = 65535 := rfl
    simp only [Lit.wf, Bool.and_eq_true, decide_eq_true_eq] at h
    omega

set_option maxRecDepth 100000 in
theorem open_field {v : Value} {d : DataW H} {p : List MemPlace} (hv : Value.okWide Try.prog w r b0 26 v) (h : DataW.Trod enc Try.prog w base spare held 26 v d p) :
    ∃ W Hh a l c, v = .agg #[.int .i64 W, .int .i64 Hh, .slice a (List.length l) c] ∧ FieldV w W Hh a l := by
  obtain ⟨cs, rfl, hsz⟩ := okWide_struct Try.underlying26 hv
  obtain ⟨l⟩ := cs
  rw [cells_field] at hsz
  match l, hsz with
  | [c0, c1, c2], _ =>
    obtain ⟨fuel, hf⟩ := h
    obtain ⟨xs, n, _, _, _, hlen, hf⟩ := DataW.trod_struct Try.underlying26 hf
    match xs, hlen with
    | [y0, y1], _ =>
      have h0 := hf 0 _ rfl
      have h1 := hf 1 _ rfl
      obtain ⟨a, b, rfl, rfl, ha, hb⟩ := trod_two (c0 := c0) (c1 := c1) Try.underlying23 ⟨rfl, rfl⟩ ⟨rfl, rfl⟩ h0
      have h1' : DataW.trod enc Try.prog w base spare held n 24 [c2] = some y1 := h1
      rcases open_ints Try.underlying24 Try.underlying46 cells_u16 h1' with ⟨hc, _⟩ | ⟨ad, len, cap, zs, hc, _, hl, hm, hz, _, hcell, hwz⟩
      · simp at hc
        subst hc
        exact ⟨a, b, none, [], 0, rfl, ha, hb, by simp, fun h => by simp at h, fun x hx => by simp at hx⟩
      · simp at hc
        subst hc
        have hle : len ≤ zs.length := by rw [hz]; split <;> omega
        obtain ⟨q1, q2, q3⟩ := row16_of hle hcell hwz
        refine ⟨a, b, some ad, zs.take len, cap, by rw [q1], ha, hb, ?_, q2, q3⟩
        rw [q1]; unfold maxLen at hm; omega

end
end Go.Proofs.Ytifbmapianddcaa

/- Arguments that came in as data, opened: slices of structs of two numbers. -/
namespace Go.Proofs.Ytifbmapianddcaa
open Go.RowKit Go.ChangeShapes Go.WideShapes Go.ChangeAt

theorem list_of {α : Type} {Q : Nat → α → Prop} (n : Nat) (h : ∀ i, i < n → ∃ a, Q i a) : ∃ l : List α, l.length = n ∧ ∀ i (hi : i < l.length), Q i l[i] := by
  induction n with
  | zero => exact ⟨[], rfl, fun i hi => by simp at hi⟩
  | succ n ih =>
    obtain ⟨l, hl, hq⟩ := ih (fun i hi => h i (by omega))
    obtain ⟨a, ha⟩ := h n (by omega)
    refine ⟨l ++ [a], by simp [hl], fun i hi => ?_⟩
    by_cases hin : i < l.length
    · rw [List.getElem_append_left hin]; exact hq i hin
    · have e : i = l.length := by simp at hi; omega
      subst e
      rw [List.getElem_append_right (Nat.le_refl _)]
      simpa [hl] using ha

section
variable {H : Type} {enc : TypeId × Value → H} {P : Program} {w : World} {base : Nat} {spare : Nat → Bool} {held : Bool}

/-- A slice of structs of two numbers of given kinds. -/
theorem open_pairs2 {t e t0 t1 : TypeId} {q0 q1 : IntKind} {f0 f1 : Field} {fuel : Nat} {cs : List Value} {x : DataW H × List MemPlace} (ht : P.underlying t = some (.slice e)) (he : P.underlying e = some (.struct #[f0, f1])) (hC : P.cellsOf e = 2)
    (e0 : f0.type = t0 ∧ f0.offset = 0) (e1 : f1.type = t1 ∧ f1.offset = 1) (h0 : P.underlying t0 = some (.int q0)) (h1 : P.underlying t1 = some (.int q1)) (c0 : P.cellsOf t0 = 1) (c1 : P.cellsOf t1 = 1)
    (h : DataW.trod enc P w base spare held fuel t cs = some x) :
    cs = [.slice none 0 0] ∨ ∃ a len cap, cs = [.slice a len cap] ∧ len ≤ maxLen ∧ (0 < len → ∃ b off, ∃ l : List (Int × Int), a = some ⟨b, off, none⟩ ∧ b < w.heap.size ∧ l.length = len ∧
      ∀ k (hk : k < l.length), (w.cell? ⟨b, off + k * 2, none⟩ = some (.int q0 l[k].1) ∧ w.cell? ⟨b, off + k * 2 + 1, none⟩ = some (.int q1 l[k].2)) ∧ (Lit.int q0 l[k].1).wf = true ∧ (Lit.int q1 l[k].2).wf = true) := by
  rcases Go.Deep.open_slice ht h with h | ⟨a, len, cap, m, n, D, Pl, rfl, _, hl, hm, hmm, _, hi⟩
  · exact .inl h.1
  · refine .inr ⟨some a, len, cap, rfl, by omega, fun hpos => ?_⟩
    have each : ∀ i, i < len → ∃ p : Int × Int, (w.cell? (a.add (i * 2)) = some (.int q0 p.1) ∧ w.cell? (a.add (i * 2 + 1)) = some (.int q1 p.2)) ∧ (Lit.int q0 p.1).wf = true ∧ (Lit.int q1 p.2).wf = true := by
      intro i hlt
      obtain ⟨cs', hc, ht'⟩ := hi i (by rw [hmm]; split <;> omega)
      rw [hC] at hc
      obtain ⟨_, hlen, hat⟩ := World.cells?_some hc
      obtain ⟨xs, n', _, _, _, hxl, hf⟩ := DataW.trod_struct he ht'
      match cs', hlen, xs, hxl with
      | [v0, v1], _, [y0, y1], _ =>
        have g0 := hf 0 f0 rfl
        have g1 := hf 1 f1 rfl
        rw [e0.1, e0.2, c0] at g0
        rw [e1.1, e1.2, c1] at g1
        obtain ⟨p0, hp0, _, hw0⟩ := DataW.trod_int h0 g0
        obtain ⟨p1, hp1, _, hw1⟩ := DataW.trod_int h1 g1
        simp at hp0 hp1
        subst hp0
        subst hp1
        have a0 := hat 0 (by omega)
        have a1 := hat 1 (by omega)
        rw [Go.Deep.add_add] at a0 a1
        exact ⟨(p0, p1), ⟨a0, a1⟩, hw0, hw1⟩
    obtain ⟨l, hll, hq⟩ := list_of len each
    obtain ⟨b, off, spot⟩ := a
    have z0 := (hq 0 (by omega)).1.1
    rw [Nat.zero_mul] at z0
    have hspot : spot = none := by simpa [Addr.add] using World.cell?_spot z0
    subst hspot
    have hb : b < w.heap.size := World.block_lt_of_cell? w _ z0
    refine ⟨b, off, l, rfl, hb, hll, fun k hk => ?_⟩
    have := hq k hk
    rw [Addr.add_lit, Addr.add_lit] at this
    exact this
end
end Go.Proofs.Ytifbmapianddcaa

/- What the statements of layer 13 are given, that came in as data: a cluster, cells of it, and one cell; parts. -/
namespace Go.Proofs.Ytifbmapianddcaa
open Go.RowKit Go.ChangeShapes Go.WideShapes Go.ChangeAt
section
variable {H : Type} {enc : TypeId × Value → H} {w : World} {r : Reach} {base b0 : Nat} {spare : Nat → Bool} {held : Bool}

set_option maxRecDepth 100000 in
theorem cells_int1 : Try.prog.cellsOf 3 = 1 := by kernel_rfl
theorem ini_wf {n : Int} (h : (Lit.int .i64 n).wf = true) : InI n := InI_wf h

set_option maxRecDepth 100000 in
theorem open_cells {fuel : Nat} {v : Value} {x : DataW H × List MemPlace} (h : DataW.trod enc Try.prog w base spare held fuel 37 [v] = some x) : ∃ a c l, v = .slice a (List.length l) c ∧ CellsV w a l ∧ (a = none → c = 0) := by
  rcases open_pairs2 Try.underlying37 Try.underlying28 cells_cell ⟨rfl, rfl⟩ ⟨rfl, rfl⟩ Try.underlying3 Try.underlying3 cells_int1 cells_int1 h with hc | ⟨a, len, cap, hc, hm, hp⟩
  · simp at hc
    subst hc
    exact ⟨none, 0, [], rfl, ⟨by simp, (fun h => by simp at h), fun p hp => by cases hp⟩, fun _ => rfl⟩
  · simp at hc
    subst hc
    by_cases h0 : 0 < len
    · obtain ⟨b, off, l, rfl, hb, hl, hk⟩ := hp h0
      refine ⟨_, cap, l, by rw [hl], ⟨by unfold maxLen at hm; omega, fun _ => ⟨b, off, rfl, hb, fun k hk' => (hk k hk').1⟩, fun p hp => ?_⟩, fun h => by cases h⟩
      obtain ⟨k, hkl, rfl⟩ := List.getElem_of_mem hp
      have h1 := (hk k hkl).2
      exact ⟨InI_wf h1.1, InI_wf h1.2⟩
    · obtain rfl : len = 0 := by omega
      refine ⟨a, cap, [], rfl, ⟨by simp, (fun h => by simp at h), fun p hp => by cases hp⟩, fun ha => ?_⟩
      subst ha
      rcases Go.Deep.open_slice Try.underlying37 h with ⟨hc, _⟩ | ⟨a', len', cap', m, n, D, Pl, hc, _⟩
      · simp at hc; exact hc
      · simp at hc

set_option maxRecDepth 100000 in
theorem cells_case13 : Try.prog.cellsOf 53 = 4 := by kernel_rfl
set_option maxRecDepth 100000 in
theorem cells_slc : Try.prog.cellsOf 37 = 1 := by kernel_rfl
set_option maxRecDepth 100000 in
theorem open_case13 {v : Value} {d : DataW H} {p : List MemPlace} (hv : Value.okWide Try.prog w r b0 53 v) (h : DataW.Trod enc Try.prog w base spare held 53 v d p) : ∃ id a c l x y, v = .agg #[.int .i64 id, .slice a (List.length l) c, .int .i64 x, .int .i64 y] ∧ InI id ∧ InI x ∧ InI y ∧ CellsV w a l ∧ (a = none → c = 0) := by
  obtain ⟨cs, rfl, hsz⟩ := okWide_struct Try.underlying53 hv
  obtain ⟨l⟩ := cs
  rw [cells_case13] at hsz
  match l, hsz with
  | [c0, c1, c2, c3], _ =>
    obtain ⟨fuel, hf⟩ := h
    obtain ⟨xs, n, _, _, _, hlen, hf⟩ := DataW.trod_struct Try.underlying53 hf
    match xs, hlen with
    | [y0, y1, y2], _ =>
      obtain ⟨a, rfl, ha⟩ := one_int (v := c0) (hf 0 _ rfl)
      obtain ⟨ad, cp, cl, rfl, hcl⟩ := open_cells (v := c1) (hf 1 _ rfl)
      obtain ⟨c, e, rfl, rfl, hc, he⟩ := trod_two (c0 := c2) (c1 := c3) Try.underlying28 ⟨rfl, rfl⟩ ⟨rfl, rfl⟩ (hf 2 _ rfl)
      exact ⟨a, ad, cp, cl, c, e, rfl, ha, hc, he, hcl⟩
end
end Go.Proofs.Ytifbmapianddcaa

/- The law InnerTo, as it is said. -/
namespace Go.Proofs.Ytifbmapianddcaa
open Go.RowKit Go.ChangeShapes Go.WideShapes Go.ChangeAt

set_option maxRecDepth 100000 in
theorem innerTo_lifted (os : Os) (started : os.Started) (H : Type) (enc : TypeId × Value → H) :
    ReturnsInHanded {} Try.checked os 6 .any (Rows.innerToSpec.pre6 enc Try.prog Try.f6 Rows.innerToRow.domain false) (Rows.innerToSpec.post enc Try.prog Try.f6 false true false false) := by
  refine returnsInHanded_of_change (C := Try.checked) own started (by kernel_rfl) Try.func6
    (ChangeSpec.witness6 (enc := enc) (C := Try.checked) false ⟨#[], #[.agg #[.int .i64 0, .int .i64 0, .slice none 0 0], .agg #[.int .i64 0, .int .i64 0, .int .i64 0], .agg #[.int .i64 0, .slice none 0 0, .int .i64 0, .int .i64 0]], []⟩ 8 (by kernel_rfl) (by kernel_rfl) (by kernel_rfl) (by kernel_rfl)) ?_
  intro W base args ds gs before hval0 hW hcnd hsz
  have hval : ∀ (j : Nat) t v, Try.f6.params[j]? = some t → args[j]? = some v → Value.okWide Try.prog W .any base t v := hval0
  have hW' := hW
  obtain ⟨p, q, hA0, hV, rfl, hfz, hnd⟩ := hW
  have hA : DataW.TrodAll enc Try.prog W 0 (fun _ => true) true Try.f6.params.toList args.toList ds p := hA0
  rw [Try.params6] at hA hval
  obtain ⟨v0, vs0, d0, ds0, p0, q0, hargs, rfl, rfl, h0, r0⟩ := trodAll_cons hA
  obtain ⟨v1, vs1, d1, ds1, p1, q1, rfl, rfl, rfl, h1, r1⟩ := trodAll_cons r0
  obtain ⟨v2, vs2, d2, ds2, p2, q2, rfl, rfl, rfl, h2, r2⟩ := trodAll_cons r1
  obtain ⟨rfl, rfl, rfl⟩ := trodAll_nil r2
  obtain rfl : args = #[v0, v1, v2] := by cases args; simp_all
  obtain ⟨rfl, rfl⟩ := trodVars_none hV
  have k0 := h0
  have lt0 : ∀ x ∈ p0, x.block < W.heap.size := by obtain ⟨m, hm⟩ := k0; exact DataW.trod_lt m _ _ _ hm
  have k1 := h1
  have lt1 : ∀ x ∈ p1, x.block < W.heap.size := by obtain ⟨m, hm⟩ := k1; exact DataW.trod_lt m _ _ _ hm
  have k2 := h2
  have lt2 : ∀ x ∈ p2, x.block < W.heap.size := by obtain ⟨m, hm⟩ := k2; exact DataW.trod_lt m _ _ _ hm
  obtain ⟨W0, H0, a0, l0, c0, rfl, fv0⟩ := open_field (hval 0 26 v0 rfl rfl) h0
  obtain ⟨W1, H1, s1, rfl, iW1, iH1, is1⟩ := open_parts (hval 1 51 v1 rfl rfl) h1
  obtain ⟨ci2, ca2, cc2, cl2, cx2, cy2, rfl, cv2⟩ := open_case13 (hval 2 53 v2 rfl rfl) h2
  clear hA0 hval0
  refine (innerTo_any W0 H0 a0 l0 c0 W1 H1 s1 ci2 ca2 cl2 cc2 cx2 cy2 fv0.2.2.2.1 fv0.2.2.2.2 cv2.2.2.2.1.2.1 cv2.2.2.2.1.2.2 cv2.2.1 cv2.2.2.1).mono fun e W' ⟨he, bel⟩ => ?_
  subst he
  exact ⟨_, rfl, _, _, _, [], _, [], hW', trodAll_mk1 (shut_bool Try.underlying4 _), (trodAll_cons_mk (Below.trod laidOut (by kernel_rfl) (of_decide_eq_true (by kernel_rfl)) k0 bel lt0) (trodAll_cons_mk (Below.trod laidOut (by kernel_rfl) (of_decide_eq_true (by kernel_rfl)) k1 bel lt1) (trodAll_cons_mk (Below.trod laidOut (by kernel_rfl) (of_decide_eq_true (by kernel_rfl)) k2 bel lt2) trodAll_mk0))), rfl, Below.frame bel _, fun h => by cases h⟩

theorem innerTo_holds : Rows.InnerToSaid :=
  OpenClaim.holds_of_wide 6 Try.f6 rfl rfl rfl rfl rfl rfl rfl ⟨rfl, rfl, rfl, rfl, rfl⟩ rfl rfl rfl rfl rfl (by kernel_rfl) Try.func6 (by kernel_rfl)
    (of_decide_eq_true (by kernel_rfl)) (by unfold Func.isWrapper; first | (rw [if_pos (by decide +kernel)]; kernel_rfl) | (rw [if_neg (by decide +kernel)]; exact ⟨rfl, rfl⟩))
    (fun os started H enc _ => innerTo_lifted os started H enc)
#print axioms innerTo_holds
end Go.Proofs.Ytifbmapianddcaa
