/- Walks of layer 13: far, and what it calls. -/
import Derived.Test.YtifbmapianddcaaInA
import Derived.Test.YtifbmapianddcaaInP
import Derived.Test.YtifbmapianddcaaFloodE
import Derived.Lib.SliceRun
set_option linter.all false
set_option linter.unusedVariables false
set_option linter.unusedSimpArgs false
namespace Go.Proofs.Ytifbmapianddcaa
open Go.RowKit

set_option maxRecDepth 100000 in
theorem iRises_any (p q : Cell) (w : World) : Calls Try.prog 125 #[.agg #[.int .i64 p.1, .int .i64 p.2], .agg #[.int .i64 q.1, .int .i64 q.2]] w fun e w' => e = .returned (.bool (riseB p q)) ∧ Ext w w' := by
  obtain ⟨px, py⟩ := p
  obtain ⟨qx, qy⟩ := q
  have e0 : riseB (px, py) (qx, qy) = (decide (py < qy) || (decide (qy = py) && decide (px < qx))) := rfl
  rw [e0]
  clear e0
  simp only
  go_enter Try.func125, Try.ntmps125
  go_wp2
  all_goals go_ret
  all_goals exact ⟨by simp [*] <;> omega, (by (with_reducible (repeat' (first | exact Ext.refl _ | assumption | refine Ext.drew ?_ | refine Ext.drewN ?_ _ | refine Ext.alloc ?_ _ | refine Ext.setCell ?_ ?_ _ | refine Ext.trans ?_ (by assumption)))); all_goals (first | (simp; done) | (simp; omega)))⟩

/-- append of a slice without elements to an empty row. -/
theorem wpList_app_none {α : Type} (E : Enc α) {P : Program} {t e : TypeId} {z : Value} {bytes : Nat} (T : ElemT P t e z E.size bytes) {ops : Array Oper} {rest : List Oper} {o : Oper} {a : Act} {Q : Exit → Act → World → Prop} {w : World}
    (hgd : o.guard = none) (s x : Operand) (ho : o.op = .call { callee := .builtin .append, args := #[s, x], argTypes := #[t, t] })
    (base : Nat) (v : Value) (hs : a.eval s = v) (hown : Own E w base e v []) (ad : Addr) (c : Nat) (hx : a.eval x = .slice (some ad) 0 c) (hbase : base ≤ w.heap.size)
    (h : ∀ v' w', Own E w' base e v' [] → Below base w w' → wpList P ops Q rest (a.put o.dst v') w') : wpList P ops Q (o :: rest) a w := by
  obtain ⟨i0, hi, hz0, hz1, hz2⟩ := info_parts T.info
  refine wpList_append_own _ hgd s x t ho base e i0 z E.size bytes T.under hi hz0 hz1 hz2 T.zs T.pos v 0 [] hs hown ad 0 c [] hx (by simp) (by intro j u hj; simp at hj) (by intro u hu; cases hu) (by unfold maxLen; omega) (by omega) hbase ?_
  intro v' w' hown' hg _
  exact h v' w' hown' ((Below.refl base w).grown hg hbase (fun k hk => (World.ownsRow.lt hown k hk).1))

set_option maxRecDepth 100000 in
theorem cloneCell_any {w : World} {a : Option Addr} {l : List Cell} (c : Nat) (hl : l.length ≤ 1000000) (hr : RowC w a l) :
    Calls Try.prog 78 #[.slice a l.length c] w fun e w' => ∃ v, e = .returned v ∧ Ext w w' ∧ Own cellE w' w.heap.size 28 v l := by
  have q := fun (w : World) (a : Option Addr) (n c n' c' : Nat) => Lib.run_eql_slice_nil (P := Try.prog) w _ _ a n c n' c' Try.underlying37
  cases a with
  | none =>
    have hl0 : l = [] := by
      cases l with
      | nil => rfl
      | cons x r => obtain ⟨b, off, h, _⟩ := hr (by simp); cases h
    subst hl0
    clear hr hl
    simp only [List.length_nil]
    go_enter Try.func78, Try.ntmps78
    go_wp2
    go_ret
    exact ⟨_, rfl, Ext.refl _, Own.nil _ _ _ _⟩
  | some ad =>
    by_cases h0 : 0 < l.length
    · obtain ⟨b, off, had, hb, hc⟩ := hr h0
      injection had with had
      subst had
      have RD := hide (hr.reads h0 c)
      obtain ⟨n, hnn⟩ : ∃ n, l.length = n := ⟨_, rfl⟩
      have HN := hide hnn
      rw [hnn] at hl h0 RD ⊢
      clear hr hc hnn
      go_enter Try.func78, Try.ntmps78
      go_wp2_with (at_builtin; refine wpList_app_more cellE T_cells rfl _ _ rfl w.heap.size _ [] l rfl (Own.lit0 cellE w _ _ _ rfl (Nat.le_refl _)) b off c (by rw [HN.out]; rfl) (Reads.cells (RD.out.ext ((Ext.refl _).alloc _))).2.2 (by rw [HN.out]; simp; omega) (by rw [HN.out]; simp; omega) (by simp) ?_; intro v9 w9 o9 b9; have O9 := hide o9; have X9 := hide (((Ext.refl w).alloc (.cells #[] 28)).of_below b9 (Nat.le_refl _)); clear o9 b9)
      rw [List.nil_append] at O9
      go_ret
      exact ⟨_, rfl, X9.out, O9.out⟩
    · have hl0 : l = [] := List.length_eq_zero_iff.1 (by omega)
      subst hl0
      clear hr hl h0
      simp only [List.length_nil]
      go_enter Try.func78, Try.ntmps78
      go_wp2_with (at_builtin; refine wpList_app_none cellE T_cells rfl _ _ rfl w.heap.size _ rfl (Own.lit0 cellE w _ _ _ rfl (Nat.le_refl _)) ad c rfl (by simp) ?_; intro v9 w9 o9 b9; have O9 := hide o9; have X9 := hide (((Ext.refl w).alloc (.cells #[] 28)).of_below b9 (Nat.le_refl _)); clear o9 b9)
      go_ret
      exact ⟨_, rfl, X9.out, O9.out⟩

set_option maxRecDepth 100000 in
theorem iFar1_any {w : World} {W H : Int} {l : List Int} {bx byy bw bh : Int} (L : LandP W H l bx byy bw bh) {a : Option Addr} {c ab pb g vc base : Nat} {D : Nat → Int} (q : Cell) (hq : hasB bx byy bw bh q.1 q.2 = true)
    (hA : w.cell? ⟨ab, 0, none⟩ = some (.slice (some ⟨g, 0, none⟩) l.length vc)) (hB : Blk w pb 134 #[.int .i64 W, .int .i64 H, .slice a l.length c, .int .i64 bx, .int .i64 byy, .int .i64 bw, .int .i64 bh]) (hF : FarAt w base g vc D l.length) :
    Calls Try.prog 126 (#[.agg #[.int .i64 q.1, .int .i64 q.2]] ++ #[.pointer (some ⟨ab, 0, none⟩), .pointer (some ⟨pb, 0, none⟩)]) w fun e w' => e = .returned (.int .u64 (D (idxN W q))) ∧ Ext w w' := by
  obtain ⟨x, y⟩ := q
  have hin := L.in_ hq
  have wh := L.wh
  have hn := L.idx_lt hin
  have hi := idx_int (W := W) hin.1 wh.1 hin.2.2.1
  have m1 := mul_bd (a := y) (b := W) (A := 256) (B := 256) (by omega) (by omega) (by omega) (by omega)
  have k1 : IntKind.i64.wrap (y * W) = y * W := IntWalk.i64_in _ (by omega)
  have k2 : IntKind.i64.wrap (y * W + x) = ((idxN W (x, y) : Nat) : Int) := by rw [hi]; exact IntWalk.i64_in _ (by omega)
  have hc := (hF.cell hn).1
  have zg := hF.lt.2
  have zb := hB.lt
  have b0 : w.cell? ⟨pb, 0, none⟩ = some (.int .i64 W) := hB.at 0 rfl
  have za := World.block_lt_of_cell? w _ hA
  simp only at za
  obtain ⟨j, hj⟩ : ∃ z, idxN W (x, y) = z := ⟨_, rfl⟩
  rw [hj] at hn k2 hc ⊢
  obtain ⟨n, hnn⟩ : ∃ z, l.length = z := ⟨_, rfl⟩
  rw [hnn] at hn hA
  have jn : (j : Int) < (n : Int) := by omega
  clear hq hB hF L hin hi m1 hj hnn wh
  simp only [Array.append_eq_append, List.append_toArray] at *
  go_enter Try.func126, Try.ntmps126
  go_wp2
  go_ret
  exact ⟨rfl, (by (with_reducible (repeat' (first | exact Ext.refl _ | assumption | refine Ext.drew ?_ | refine Ext.drewN ?_ _ | refine Ext.alloc ?_ _ | refine Ext.setCell ?_ ?_ _ | refine Ext.trans ?_ (by assumption)))); all_goals (first | (simp; done) | (simp; omega)))⟩
end Go.Proofs.Ytifbmapianddcaa
