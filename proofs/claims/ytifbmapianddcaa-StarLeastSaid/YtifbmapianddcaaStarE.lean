/- Walks of the search's key, its test on walls, its path. -/
import Derived.Test.YtifbmapianddcaaStarD
set_option linter.all false
set_option linter.unusedVariables false
set_option linter.unusedSimpArgs false
namespace Go.Proofs.Ytifbmapianddcaa
open Go.RowKit

/-- The costs by cells' numbers, and whence they came. -/
def KU : MapK := ⟨120, 3, 38, .i64, .u64⟩
theorem KU_ok : KU.Ok Try.prog := ⟨Try.underlying120, Try.underlying3, Try.underlying38, fun _ => by kernel_rfl⟩

/-- m[k] of a key that is there, as an equation. -/
theorem MapIn.get_run {P : Program} {K : MapK} {w : World} {b N : Nat} {f : Int → Option Int} (O : K.Ok P) (h : MapIn P K w b f N) {k c : Int} (hk : Fits64 K.qk k) (hc : f k = some c) : (Instr.lookup K.tm (.map (some b)) (.int K.qk k) false).run P w = .ok (.int K.qe c) w := by
  obtain ⟨D, h1, h2, h3⟩ := h
  obtain ⟨c', hrun, hat, _⟩ := h1.lookup_int (Maps.int_keyed O.key) O.under O.elem (O.zero w) (Maps.keyOf_int_mk O.key hk)
  rw [(h3 k).2 c hc] at hat
  have e : c = c' := by simpa using hat
  subst e
  exact hrun

set_option maxRecDepth 100000 in
theorem sKey_any {w : World} {sb : Nat} {W H : Int} {a : Option Addr} {n c : Nat} {tx ty : Int} {h mg mc : Nat} {k : Int} (S : SeaAt w sb W H a n c tx ty h mg mc k) (x y g : Int) (hx : 0 ≤ x ∧ x ≤ 1000) (hy : 0 ≤ y ∧ y ≤ 1000) (htx : 0 ≤ tx ∧ tx ≤ 1000) (hty : 0 ≤ ty ∧ ty ≤ 1000) (hg : 0 ≤ g ∧ g ≤ 1000000000000) :
    Calls Try.prog 114 #[.pointer (some ⟨sb, 0, none⟩), .agg #[.int .i64 x, .int .i64 y], .int .u64 g] w fun e w' => e = .returned (keyV ((g + manh x y tx ty, manh x y tx ty), (y, x))) ∧ Ext w w' := by
  have hb := manh_bd hx hy htx hty
  have H1 := hide (fun w' => gWalk_any x y tx ty w' hx hy htx hty)
  generalize manh x y tx ty = m at *
  have q3 : w.cell? ⟨sb, 3, none⟩ = some (.int .i64 tx) := S.at 3 rfl
  have q4 : w.cell? ⟨sb, 4, none⟩ = some (.int .i64 ty) := S.at 4 rfl
  have hz := Blk.lt S
  have k1 : IntKind.u64.wrap m = m := by rw [IntKind.wrap_u64]; omega
  have k2 : IntKind.u64.wrap (g + m) = g + m := by rw [IntKind.wrap_u64]; omega
  clear S hx hy htx hty
  unfold keyV
  simp only
  go_enter Try.func114, Try.ntmps114
  go_wp2_with fail
  obtain ⟨w1, hw1⟩ : ∃ w1, w1 = (w.alloc (.cells #[.int .i64 x, .int .i64 y] 28)).alloc (.cells #[.int .u64 0, .int .u64 0, .int .i64 0, .int .i64 0] 185) := ⟨_, rfl⟩
  have hx1 : Ext w w1 := by rw [hw1]; exact (by (with_reducible (repeat' (first | exact Ext.refl _ | assumption | refine Ext.drew ?_ | refine Ext.drewN ?_ _ | refine Ext.alloc ?_ _ | refine Ext.setCell ?_ ?_ _ | refine Ext.trans ?_ (by assumption)))); all_goals (first | (simp; done) | (simp; omega)))
  have B := hide (show Blk w1 w.heap.size 28 #[.int .i64 x, .int .i64 y] by rw [hw1]; exact (Blk.new_ rfl).over)
  have B2 := hide (show Blk w1 (w.heap.size + 1) 185 #[.int .u64 0, .int .u64 0, .int .i64 0, .int .i64 0] by rw [hw1]; exact Blk.new_ (by simp))
  have q3 := (hx1.cell (p := ⟨sb, 3, none⟩) hz).trans q3
  have q4 := (hx1.cell (p := ⟨sb, 4, none⟩) hz).trans q4
  have hz1 := Nat.lt_of_lt_of_le hz hx1.size
  rw [← hw1]
  have b0 := B.out.at 0 rfl; have b1 := B.out.at 1 rfl; have bz := B.out.lt
  clear hw1
  refine seqH_start (S := (fun W => (∀ b o, b < w1.heap.size → W.cell? ⟨b, o, none⟩ = w1.cell? ⟨b, o, none⟩) ∧ Ext w1 W)) [(0, true), (1, true), (2, true), (3, true), (4, true), (5, false), (6, true), (7, true), (8, true), (9, true), (10, true)] (by kernel_rfl) (by kernel_rfl) (by kernel_rfl) (by decide) (fun _ _ d _ _ h => by cases d <;> exact h) (by first | with_reducible exact pr_start _ | exact pr_of (by (with_reducible (repeat' (first | exact Ext.refl _ | assumption | refine Ext.drew ?_ | refine Ext.drewN ?_ _ | refine Ext.alloc ?_ _ | refine Ext.setCell ?_ ?_ _ | refine Ext.trans ?_ (by assumption)))); all_goals (first | (simp; done) | (simp; omega)))) (fun hHeld => ?_)
  iterate 5 (apply SeqH.free; (· (simp only [List.getElem?_toArray, List.getElem?_cons_succ, List.getElem?_cons_zero]; rfl)); (· first | exact Or.inr ⟨by rfl, rfl⟩ | (refine Or.inl ⟨by rfl, ?_⟩; intro w hSw; (try dsimp only at hSw); go_simp; try with_reducible rfl)); try simp only [Act.put, List.setIfInBounds_toArray, List.set_cons_zero, List.set_cons_succ])
  (apply SeqH.step; (· (simp only [List.getElem?_toArray, List.getElem?_cons_succ, List.getElem?_cons_zero]; rfl)); intro K hK; go_simp; refine (H1.out _).mono ?_; rintro e w2 ⟨rfl, hb2⟩; go_wp2_with fail; refine hK.out _ _ (pr_of (by (with_reducible (repeat' (first | exact Ext.refl _ | assumption | refine Ext.drew ?_ | refine Ext.drewN ?_ _ | refine Ext.alloc ?_ _ | refine Ext.setCell ?_ ?_ _ | refine Ext.trans ?_ (by assumption)))); all_goals (first | (simp; done) | (simp; omega)))) (fun hHeld => ?_); clear hK K; try simp only [Act.put, List.setIfInBounds_toArray, List.set_cons_zero, List.set_cons_succ])
  iterate 5 (apply SeqH.free; (· (simp only [List.getElem?_toArray, List.getElem?_cons_succ, List.getElem?_cons_zero]; rfl)); (· first | exact Or.inr ⟨by rfl, rfl⟩ | (refine Or.inl ⟨by rfl, ?_⟩; intro w hSw; (try dsimp only at hSw); go_simp; try with_reducible rfl)); try simp only [Act.put, List.setIfInBounds_toArray, List.set_cons_zero, List.set_cons_succ])
  refine SeqH.done ?_
  have hx2 := hHeld.2
  have c0 := (hx2.cell (p := ⟨w.heap.size, 0, none⟩) bz).trans b0
  have c1 := (hx2.cell (p := ⟨w.heap.size, 1, none⟩) bz).trans b1
  have K2 := B2.out.ext hx2
  have d0 := K2.at 0 rfl
  have d1 := K2.at 1 rfl
  have d2 := K2.at 2 rfl
  have d3 := K2.at 3 rfl
  have e0 := K2.frozen 0
  have e1 := K2.frozen 1
  have e2 := K2.frozen 2
  have e3 := K2.frozen 3
  have HX := hide (hx1.trans hx2)
  clear hHeld hb2 hx2 hx1 b0 b1 q3 q4 K2
  go_wp2_with fail
  have hxx := HX.out
  exact bodyPost_ret (v := .agg #[.int .u64 (g + m), .int .u64 m, .int .i64 y, .int .i64 x]) (by simp [results, Try.results114, go_sem, *]) rfl ⟨rfl, (((hxx.setCell (by simp) _).setCell (by simp) _).setCell (by simp) _).setCell (by simp) _⟩

/-- The test on walls: the search's pointer lies in a box. -/
theorem sRun1_any {w : World} {bp sb : Nat} {W H : Int} {a : Option Addr} {l : List Int} {c : Nat} {tx ty : Int} {h mg mc : Nat} {k : Int} (hbp : w.cell? ⟨bp, 0, none⟩ = some (.pointer (some ⟨sb, 0, none⟩))) (S : SeaAt w sb W H a l.length c tx ty h mg mc k) (hm : mayB W H = true) (hl : (l.length : Int) = W * H) (hr : Row16 w a l) (hu : U16s l) (x y : Int) (h1 : 0 ≤ x) (h2 : x < W) (h3 : 0 ≤ y) (h4 : y < H) :
    Calls Try.prog 120 #[.agg #[.int .i64 x, .int .i64 y], .pointer (some ⟨bp, 0, none⟩)] w fun e w' => e = .returned (.bool (decide (costI l W (x, y) = 0))) ∧ Ext w w' := by
  have HC := hide (fun (w' : World) (hx : Ext w w') => sCost_any (Blk.ext S hx) hm hl (hr.ext hx) hu x y h1 h2 h3 h4)
  have hz := World.block_lt_of_cell? w _ hbp
  have hz' : bp < w.heap.size := hz
  generalize costI l W (x, y) = cst at *
  have e0 : (cst == 0) = decide (cst = 0) := rfl
  have HE := hide e0
  clear S hm hl hr hu h1 h2 h3 h4 e0 hz
  go_enter Try.func120, Try.ntmps120
  go_wp2_with (go_at_call 68; refine (HC.out _ (by (with_reducible (repeat' (first | exact Ext.refl _ | assumption | refine Ext.drew ?_ | refine Ext.drewN ?_ _ | refine Ext.alloc ?_ _ | refine Ext.setCell ?_ ?_ _ | refine Ext.trans ?_ (by assumption)))); all_goals (first | (simp; done) | (simp; omega)))).mono ?_; rintro e w2 ⟨rfl, hb2⟩)
  go_ret
  exact ⟨by congr 1, (by (with_reducible (repeat' (first | exact Ext.refl _ | assumption | refine Ext.drew ?_ | refine Ext.drewN ?_ _ | refine Ext.alloc ?_ _ | refine Ext.setCell ?_ ?_ _ | refine Ext.trans ?_ (by assumption)))); all_goals (first | (simp; done) | (simp; omega)))⟩

set_option maxRecDepth 100000 in
/-- The cells to one, each of which came from the next: what path tells. -/
theorem sPath_any {w : World} {sb : Nat} {W H : Int} {a : Option Addr} {n c : Nat} {tx ty : Int} {h mg mc : Nat} {k : Int} (S : SeaAt w sb W H a n c tx ty h mg mc k) {came : Nat → Int} {N : Nat} {f : Int → Option Int} (M : MapIn Try.prog KM w mc f N) (hW : 1 ≤ W ∧ W ≤ 256) {v : Nat} {l : List Nat} (C : Chain came v l) (hll : l.length ≤ 65536) (hlv : ∀ u, u ∈ l → (u : Int) ≤ 65536 ∧ f (u : Int) = some (came u)) (hneg : ∀ u, u ∈ l → came u < 0 → came u = -1) :
    Calls Try.prog 118 #[.pointer (some ⟨sb, 0, none⟩), .int .i64 (v : Int)] w fun e w' => ∃ r, e = .returned r ∧ Ext w w' ∧ Own cellE w' w.heap.size 28 r (l.reverse.map (cellV W)) := by
  have q0 : w.cell? ⟨sb, 0, none⟩ = some (.int .i64 W) := S.at 0 rfl
  have q7 : w.cell? ⟨sb, 7, none⟩ = some (.map (some mc)) := S.at 7 rfl
  have hz := Blk.lt S
  have HM := hide M
  have HV := hide hlv
  have HNG := hide hneg
  have HC0 := hide C
  have HLV0 : Hid (l ≠ []) := hide (by cases C <;> simp)
  have Q := hide (And.intro q0 q7)
  clear S M hlv hneg C q0 q7
  go_enter Try.func118, Try.ntmps118
  go_wp2_with fail
  go_loopg [1, 5] l.length (fun gk si so wr => ∃ (pre rest : List Nat), l = pre ++ rest ∧ gk = rest.length ∧ Own cellE wr w.heap.size 28 so (pre.map (cellV W)) ∧ Ext w wr ∧ ((rest = [] ∧ si = .int .i64 (-1)) ∨ ∃ (u : Nat) (r : List Nat), rest = u :: r ∧ si = .int .i64 (u : Int) ∧ Chain came u rest))
  case atStart => exact ⟨[], l, rfl, rfl, Own.nil _ _ _ _, Ext.refl _, .inr (by cases HC0.out with | stop h => exact ⟨v, _, rfl, rfl, .stop h⟩ | go h1 h2 => exact ⟨v, _, rfl, rfl, .go h1 h2⟩)⟩
  case round =>
    obtain ⟨pre, rest, hlr, rfl, ho, hx, hc⟩ := hrel
    have HLR := hide hlr
    have HO := hide ho
    have HX := hide hx
    have hprl : pre.length ≤ 65536 := by rw [hlr] at hll; simp at hll; omega
    have hzr := hx.size
    clear hlr ho hx HC0
    rcases hc with ⟨rfl, rfl⟩ | ⟨u, r, rfl, rfl, hch⟩
    · have hpl : l = pre := by rw [HLR.out, List.append_nil]
      subst hpl
      have hl0 := HLV0.out
      obtain ⟨g, cg, hov⟩ : ∃ g cg, u5 = .slice (some ⟨g, 0, none⟩) l.length cg := by
        rcases HO.out.2 with ⟨_, h⟩ | ⟨g, cap, cur, h, _⟩
        · rw [List.length_map] at h
          exact absurd (List.eq_nil_of_length_eq_zero h) hl0
        · exact ⟨g, cap, by rw [h, List.length_map]⟩
      subst hov
      have hgl := own_lt HO.out rfl
      have HR := hide (fun (w' : World) (hx : Ext wr w') => revCell_any (w := w') (l := l.map (cellV W)) (n := l.length) (by rw [List.length_map]) (List.length_pos_iff.2 hl0) (by omega) (HO.out.ext hx))
      clear hl0
      go_wp2_with fail
      refine (HR.out _ (Ext.refl _)).mono ?_
      rintro e w5 ⟨rfl, ho5, t5⟩
      have O5 := hide ho5
      have T5 := hide t5
      clear ho5 t5
      go_wp2_with fail
      go_ret
      refine ⟨_, rfl, ((Touch.of_ext (S := fun _ => False) HX.out).after T5.out (fun k hk e => by omega)).ext, ?_⟩
      rw [List.map_reverse]
      exact O5.out
    · have hu := HV.out u (by rw [HLR.out]; simp)
      have hq0 := (HX.out.cell (p := ⟨sb, 0, none⟩) hz).trans Q.out.1
      have hq7 := (HX.out.cell (p := ⟨sb, 7, none⟩) hz).trans Q.out.2
      have hzs : sb < wr.heap.size := by omega
      have k1 : (u : Int).tmod W = vx W u := tmod_in (by omega) (by omega) (by omega)
      have k2 : IntKind.i64.wrap ((u : Int).tdiv W) = vy W u := tdiv_in (by omega) (by omega) (by omega)
      have k2' : IntKind.i64.wrap ((u : Int) / W) = vy W u := by rw [← k2, Int.tdiv_eq_ediv_of_nonneg (by omega)]
      have hW0 : ¬ W = 0 := by omega
      have hplen : (pre.map (cellV W)).length = pre.length := List.length_map _
      have HPL := hide hplen
      have HCH := hide hch
      have hbz : w.heap.size ≤ wr.heap.size := hzr
      obtain ⟨ou, oc, hov⟩ := HO.out.slice
      subst hov
      rw [hplen] at HO ⊢
      have HFU := hide hu.2
      have HFT : Hid (Fits64 .i64 (u : Int)) := hide (fits_nat (by omega))
      clear hch hplen hu
      go_wp2_with fail
      go_region_law (refine step_app_drew cellE T_cells rfl _ _ rfl w.heap.size _ _ (pre.map (cellV W)) rfl HO.out (cellV W u) _ _ rfl _ rfl rfl (by rw [HPL.out]; omega) (by rw [HPL.out]; omega) (by omega) ?_; intro g9 c9 w9 o9 t9 l9; have O9 := hide o9; have T9 := hide t9; have X9 := hide (((Touch.of_ext (S := fun _ => False) HX.out).after T9.out (fun k hk h => by have := (own_lt HO.out (k := k) h).1; omega)).ext); have r7 : w9.cell? ⟨sb, 7, none⟩ = some (.map (some mc)) := (X9.out.cell (p := ⟨sb, 7, none⟩) hz).trans Q.out.2; have M9 := (HM.out.ext HX.out).touch T9.out (fun h => by have := (own_lt HO.out h).1; have := HM.out.lt; omega); have rl := M9.get_run KM_ok HFT.out HFU.out; simp only [KM] at rl; clear o9 t9 l9 M9)
      all_goals
        have REL : Hid (∃ (pre2 rest2 : List Nat), l = pre2 ++ rest2 ∧ r.length = rest2.length ∧ Own cellE w9 w.heap.size 28 (.slice (some ⟨g9, 0, none⟩) (pre.length + 1) c9) (pre2.map (cellV W)) ∧ Ext w w9 ∧ ((rest2 = [] ∧ Value.int .i64 (came u) = .int .i64 (-1)) ∨ ∃ (u2 : Nat) (r2 : List Nat), rest2 = u2 :: r2 ∧ Value.int .i64 (came u) = .int .i64 (u2 : Int) ∧ Chain came u2 rest2)) := hide (by
          refine ⟨pre ++ [u], r, by rw [HLR.out]; simp, rfl, ?_, X9.out, ?_⟩
          · have h := O9.out
            rw [HPL.out] at h
            rw [List.map_append]
            exact h
          · cases HCH.out with
            | stop h => exact .inl ⟨rfl, by rw [HNG.out u (by rw [HLR.out]; simp) h]⟩
            | go h1 h2 =>
              obtain ⟨r2, hr2⟩ : ∃ r2, r = _ :: r2 := by cases h2 <;> exact ⟨_, rfl⟩
              exact .inr ⟨_, r2, hr2, by rw [h1], h2⟩)
        try go_wp2_with fail
        go_roundg r.length
        case measure => simp
        case rel => exact REL.out
end Go.Proofs.Ytifbmapianddcaa
