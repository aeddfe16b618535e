/- The walk of GateStays. -/
import Derived.Test.YtifbmapianddcaaGateS
import Derived.Test.YtifbmapianddcaaArgN
import Derived.Deep.CutBlock
set_option linter.all false
set_option linter.unusedVariables false
set_option linter.unusedSimpArgs false
namespace Go.Proofs.Ytifbmapianddcaa
open Go.RowKit

theorem own_gate_at {w : World} {base n c : Nat} {e : TypeId} {a : Option Addr} {l : List (Cell × Cell)} {j : Nat} {q : Cell × Cell} (h : Own pairE w base e (.slice a n c) l) (hj : l[j]? = some q) :
    ∃ g, a = some ⟨g, 0, none⟩ ∧ g < w.heap.size ∧ (w.cell? ⟨g, j * 4, none⟩ = some (.int .i64 q.1.1) ∧ w.cell? ⟨g, j * 4 + 1, none⟩ = some (.int .i64 q.1.2) ∧ w.cell? ⟨g, j * 4 + 2, none⟩ = some (.int .i64 q.2.1) ∧ w.cell? ⟨g, j * 4 + 3, none⟩ = some (.int .i64 q.2.2)) := by
  obtain ⟨hjl, rfl⟩ := List.getElem?_eq_some_iff.1 hj
  rcases h.2 with ⟨hv, h0⟩ | ⟨g, cap, cur, hv, hb, hg, _⟩
  · omega
  · cases hv
    refine ⟨g, rfl, lt_of_block hg, ?_⟩
    have := h.reads.pairs.2 j hjl
    simpa using this

theorem ofAll_len {l : List Int} {W H pW pH s : Int} : (ofAll l W H pW pH s).length ≤ 4194304 := by
  unfold ofAll
  by_cases h0 : gateE W H pW pH l.length = 0
  · rw [if_pos h0]
    obtain ⟨hm, rfl, rfl⟩ := gateE_zero h0
    by_cases ht : rightB pW pH s = true
    · rw [if_pos ht]
      have b0 := cnt_bd ht
      have := ofG_len (l := l) ht (n := (cnt pW pH s).toNat) (by omega)
      omega
    · rw [if_neg ht]; simp
  · rw [if_neg h0]; simp

theorem stays_add {x z : Int} (h1 : 0 < x) (h2 : x < 65000) : 0 ≤ IntKind.u16.wrap (x + IntKind.u16.wrap ((wrap64 (z.tmod 9 + 9)).tmod 9)) ∧ IntKind.u16.wrap (x + IntKind.u16.wrap ((wrap64 (z.tmod 9 + 9)).tmod 9)) ≤ 65535 ∧ (0 < IntKind.u16.wrap (x + IntKind.u16.wrap ((wrap64 (z.tmod 9 + 9)).tmod 9)) ↔ 0 < x) := by
  have b1 : -9 < z.tmod 9 := Int.lt_tmod_of_pos z (by decide)
  have b2 : z.tmod 9 < 9 := Int.tmod_lt_of_pos z (by decide)
  have e1 : wrap64 (z.tmod 9 + 9) = z.tmod 9 + 9 := by unfold wrap64; omega
  rw [e1, IntKind.wrap_u16, IntKind.wrap_u16]
  generalize z.tmod 9 = t at *
  rw [Int.tmod_eq_emod_of_nonneg (show 0 ≤ t + 9 by omega)]
  omega

set_option maxRecDepth 100000 in
set_option maxHeartbeats 1500000 in
theorem stays_main (W H : Int) (a : Option Addr) (l : List Int) (c : Nat) (pW pH s : Int) (a2 : Option Addr) (n2 c2 : Nat) (w : World) (h1 : (l.length : Int) ≤ 260) (h2 : (n2 : Int) ≤ 300) (hr : Row16 w a l) (hu : U16s l) (hi : IntsV w a2 n2) :
    Calls Try.prog 13 #[.agg #[.int .i64 W, .int .i64 H, .slice a l.length c], .agg #[.int .i64 pW, .int .i64 pH, .int .i64 s], .slice a2 n2 c2] w fun e w' => e = .returned (.bool true) ∧ Ext w w' := by
  have HR := hide hr
  have HU := hide hu
  have HI := hide hi
  have hd : decide ((l.length : Int) ≤ 260) = true := by simpa using h1
  clear hr hu hi
  go_enter Try.func13, Try.ntmps13
  go_wp2_with fail
  have BF : Hid (Blk ((w.alloc (.cells #[.int .i64 W, .int .i64 H, .slice a l.length c] 26)).alloc (.cells #[.int .i64 pW, .int .i64 pH, .int .i64 s] 51)) w.heap.size 26 #[.int .i64 W, .int .i64 H, .slice a l.length c]) := hide (Blk.over (Blk.new_ rfl))
  have BP : Hid (Blk ((w.alloc (.cells #[.int .i64 W, .int .i64 H, .slice a l.length c] 26)).alloc (.cells #[.int .i64 pW, .int .i64 pH, .int .i64 s] 51)) (w.heap.size + 1) 51 #[.int .i64 pW, .int .i64 pH, .int .i64 s]) := hide (Blk.new_ (by simp))
  have X2 : Hid (Ext w ((w.alloc (.cells #[.int .i64 W, .int .i64 H, .slice a l.length c] 26)).alloc (.cells #[.int .i64 pW, .int .i64 pH, .int .i64 s] 51))) := hide (by (with_reducible (repeat' (first | exact Ext.refl _ | assumption | refine Ext.drew ?_ | refine Ext.drewN ?_ _ | refine Ext.alloc ?_ _ | refine Ext.setCell ?_ ?_ _ | refine Ext.trans ?_ (by assumption)))); all_goals (first | (simp; done) | (simp; omega)))
  obtain ⟨w2, hw2⟩ : ∃ w2, (w.alloc (.cells #[.int .i64 W, .int .i64 H, .slice a l.length c] 26)).alloc (.cells #[.int .i64 pW, .int .i64 pH, .int .i64 s] 51) = w2 := ⟨_, rfl⟩
  rw [hw2] at BF BP X2 ⊢
  obtain ⟨f, hf⟩ : ∃ f, w.heap.size = f := ⟨_, rfl⟩
  rw [hf] at BF BP ⊢
  clear hw2 hf
  refine (small12_any W H a l.length c _).mono ?_
  rintro e w3 ⟨rfl, x3⟩
  rw [hd]
  have BF3 := hide (BF.out.ext x3)
  have BP3 := hide (BP.out.ext x3)
  have X3 := hide (X2.out.trans x3)
  have HR3 := hide (HR.out.ext X3.out)
  have q0 := BF3.out.at 0 rfl; have q1 := BF3.out.at 1 rfl; have q2 := BF3.out.at 2 rfl; have qz := BF3.out.lt
  have p0 := BP3.out.at 0 rfl; have p1 := BP3.out.at 1 rfl; have p2 := BP3.out.at 2 rfl; have pz := BP3.out.lt
  clear x3 BF BP X2
  go_wp2_with fail
  refine (gtOf_any W H a l c pW pH s _ HR3.out).mono ?_
  rintro e w4 ⟨v4, rfl, x4, o4⟩
  obtain ⟨a4, c4, rfl⟩ := o4.slice
  have O4 := hide o4
  have X4 := hide (X3.out.trans x4)
  have BF4 := hide (BF3.out.ext x4)
  have BP4 := hide (BP3.out.ext x4)
  clear x4 o4 q0 q1 q2 qz p0 p1 p2 pz X3 BF3 BP3 HR3
  have q0 := BF4.out.at 0 rfl; have q1 := BF4.out.at 1 rfl; have q2 := BF4.out.at 2 rfl; have qz := BF4.out.lt
  go_upto_region 5 with (fail)
  have B5 : Hid (Blk (w4.alloc (.cells #[.int .i64 W, .int .i64 H, .slice none 0 0] 26)) w4.heap.size 26 #[.int .i64 W, .int .i64 H, .slice none 0 0]) := hide (Blk.new_ rfl)
  obtain ⟨er, her⟩ : ∃ er, ofErr W H pW pH s l.length = er := ⟨_, rfl⟩
  obtain ⟨G, hG⟩ : ∃ G, ofAll l W H pW pH s = G := ⟨_, rfl⟩
  obtain ⟨m, hm⟩ : ∃ m, G.length = m := ⟨_, rfl⟩
  rw [hG] at O4
  rw [hm] at O4
  rw [her, hG, hm]
  have HE := hide her
  have HG := hide hG
  have hml : m ≤ 4194304 := by rw [← hm, ← hG]; exact ofAll_len
  have HM := hide hm
  have X5 : Hid (Ext w4 (w4.alloc (.cells #[.int .i64 W, .int .i64 H, .slice none 0 0] 26))) := hide ((Ext.refl _).alloc _)
  obtain ⟨w5, hw5⟩ : ∃ w5, w4.alloc (.cells #[.int .i64 W, .int .i64 H, .slice none 0 0] 26) = w5 := ⟨_, rfl⟩
  obtain ⟨g, hg⟩ : ∃ g, w4.heap.size = g := ⟨_, rfl⟩
  have HGW := hide hg
  rw [hw5] at B5 X5 ⊢
  rw [hg] at B5 ⊢
  clear hw5 hg her hG hm q0 q1 q2 qz
  go_wp2_with fail
  go_loopw [10] (fun i wr => ∃ (k : Nat) (l' : List Int) (v : Value), i = .int .i64 (k : Int) ∧ k ≤ l.length ∧ l'.length = k ∧ U16s l' ∧ (∀ j : Nat, j < k → (0 < l'.getD j 0 ↔ 0 < l.getD j 0)) ∧ Blk wr g 26 #[.int .i64 W, .int .i64 H, v] ∧ Own u16G wr (g + 1) 46 v l' ∧ Ext w4 wr) (fun i _ => l.length - (intOf i).toNat)
  case atStart => exact ⟨0, [], _, rfl, Nat.zero_le _, rfl, (fun x hx => by cases hx), (fun j hj => by omega), B5.out, Own.nil _ _ _ _, X5.out⟩
  case round =>
    obtain ⟨k, l', v, rfl, hk, hl', hu', hz', hB, ho, hx⟩ := hrel
    have HU' := hide hu'
    have HZ' := hide hz'
    have HB := hide hB
    have HO := hide ho
    have HX := hide hx
    have hz := hx.size
    have hgw := HGW.out
    obtain ⟨av, cv, rfl⟩ := ho.slice
    subst hl'
    have BFr := hide (BF4.out.ext hx)
    have q0 := BFr.out.at 0 rfl; have q1 := BFr.out.at 1 rfl; have q2 := BFr.out.at 2 rfl; have qz := BFr.out.lt
    clear hu' hz' hB ho B5 X5
    by_cases hlt : l'.length < l.length
    · obtain ⟨b, off, rfl, hb, hc⟩ := HR.out (by omega)
      have hck := ((X4.out.trans hx).cell (p := ⟨b, off + l'.length, none⟩) hb).trans (hc l'.length hlt)
      have hux := HU.out l[l'.length] (List.getElem_mem _)
      have hxg : l.getD l'.length 0 = l[l'.length] := by rw [List.getD_eq_getElem?_getD, List.getElem?_eq_getElem hlt]; rfl
      have HXG := hide hxg
      generalize l[l'.length] = x at *
      clear hx hc hxg
      have r0 := HB.out.at 0 rfl; have r1 := HB.out.at 1 rfl; have r2 := HB.out.at 2 rfl; have rz := HB.out.lt
      have f2 := HB.out.frozen 2
      by_cases hx0 : x = 0
      · subst hx0
        go_upto_region 11 with (fail)
        have HY := hide (show 0 ≤ (0 : Int) ∧ (0 : Int) ≤ 65535 ∧ (0 < (0 : Int) ↔ 0 < (0 : Int)) from ⟨by omega, by omega, Iff.rfl⟩)
        go_wp2_with (at_builtin; refine wpList_app_at u16G T_u16G rfl _ _ rfl (g + 1) _ _ l' rfl HO.out (0) _ _ rfl _ rfl rfl (by omega) (by omega) (by have := HB.out.lt; omega) ?_; intro g9 c9 w9 o9 t9 l9; have B9 := hide (HB.out.touch t9 (fun h => by have := (own_lt HO.out h).1; omega)); have d9 := B9.out.cell 2; have k9 := B9.out.frozen 2; have O9 := hide o9; have T9 := hide t9; clear o9 t9 l9)
        go_roundw
        case rel =>
          refine ⟨l'.length + 1, l' ++ [0], _, by go_num, by omega, by simp, ?_, ?_, B9.out.set_ 2 _, O9.out.setCell (by show g < g + 1; omega) _, (HX.out.of_below (T9.out.to_below (by have := HB.out.lt; omega) (fun q hq => (own_lt HO.out hq).1)) (by omega)).setCell (by show w4.heap.size ≤ g; omega) _⟩
          · intro y hy
            rcases List.mem_append.1 hy with hy | hy
            · exact HU'.out y hy
            · rw [List.mem_singleton.1 hy]; exact ⟨HY.out.1, HY.out.2.1⟩
          · intro j hj
            by_cases hjk : j < l'.length
            · rw [List.getD_eq_getElem?_getD, List.getElem?_append_left hjk, ← List.getD_eq_getElem?_getD]
              exact HZ'.out j hjk
            · obtain rfl : j = l'.length := by omega
              rw [List.getD_eq_getElem?_getD, List.getElem?_append_right (Nat.le_refl _), HXG.out]
              simpa using HY.out.2.2
        case measure => simp [intOf]; omega
      · have hx2 : 0 < x := by omega
        by_cases hx1 : 65000 ≤ x
        · go_upto_region 11 with (fail)
          have HY := hide (show 0 ≤ (x : Int) ∧ (x : Int) ≤ 65535 ∧ (0 < (x : Int) ↔ 0 < x) from ⟨hux.1, hux.2, Iff.rfl⟩)
          go_wp2_with (at_builtin; refine wpList_app_at u16G T_u16G rfl _ _ rfl (g + 1) _ _ l' rfl HO.out (x) _ _ rfl _ rfl rfl (by omega) (by omega) (by have := HB.out.lt; omega) ?_; intro g9 c9 w9 o9 t9 l9; have B9 := hide (HB.out.touch t9 (fun h => by have := (own_lt HO.out h).1; omega)); have d9 := B9.out.cell 2; have k9 := B9.out.frozen 2; have O9 := hide o9; have T9 := hide t9; clear o9 t9 l9)
          go_roundw
          case rel =>
            refine ⟨l'.length + 1, l' ++ [x], _, by go_num, by omega, by simp, ?_, ?_, B9.out.set_ 2 _, O9.out.setCell (by show g < g + 1; omega) _, (HX.out.of_below (T9.out.to_below (by have := HB.out.lt; omega) (fun q hq => (own_lt HO.out hq).1)) (by omega)).setCell (by show w4.heap.size ≤ g; omega) _⟩
            · intro y hy
              rcases List.mem_append.1 hy with hy | hy
              · exact HU'.out y hy
              · rw [List.mem_singleton.1 hy]; exact ⟨HY.out.1, HY.out.2.1⟩
            · intro j hj
              by_cases hjk : j < l'.length
              · rw [List.getD_eq_getElem?_getD, List.getElem?_append_left hjk, ← List.getD_eq_getElem?_getD]
                exact HZ'.out j hjk
              · obtain rfl : j = l'.length := by omega
                rw [List.getD_eq_getElem?_getD, List.getElem?_append_right (Nat.le_refl _), HXG.out]
                simpa using HY.out.2.2
          case measure => simp [intOf]; omega
        · have hx3 : x < 65000 := by omega
          clear hx1
          by_cases hn0 : n2 = 0
          · have hn1 : decide (0 < n2) = false := by simp; omega
            have hn3 : decide ((0 : Int) < (n2 : Int)) = false := by simp; omega
            have hn4 : (n2 : Int) ≤ 0 := by omega
            have hn5 : n2 ≤ 0 := by omega
            have HN0 := hide hn0
            clear hn0
            go_upto_region 11 with (fail)
            have HY := hide (show 0 ≤ (x : Int) ∧ (x : Int) ≤ 65535 ∧ (0 < (x : Int) ↔ 0 < x) from ⟨hux.1, hux.2, Iff.rfl⟩)
            go_wp2_with (at_builtin; refine wpList_app_at u16G T_u16G rfl _ _ rfl (g + 1) _ _ l' rfl HO.out (x) _ _ rfl _ rfl rfl (by omega) (by omega) (by have := HB.out.lt; omega) ?_; intro g9 c9 w9 o9 t9 l9; have B9 := hide (HB.out.touch t9 (fun h => by have := (own_lt HO.out h).1; omega)); have d9 := B9.out.cell 2; have k9 := B9.out.frozen 2; have O9 := hide o9; have T9 := hide t9; clear o9 t9 l9)
            go_roundw
            case rel =>
              refine ⟨l'.length + 1, l' ++ [x], _, by go_num, by omega, by simp, ?_, ?_, B9.out.set_ 2 _, O9.out.setCell (by show g < g + 1; omega) _, (HX.out.of_below (T9.out.to_below (by have := HB.out.lt; omega) (fun q hq => (own_lt HO.out hq).1)) (by omega)).setCell (by show w4.heap.size ≤ g; omega) _⟩
              · intro y hy
                rcases List.mem_append.1 hy with hy | hy
                · exact HU'.out y hy
                · rw [List.mem_singleton.1 hy]; exact ⟨HY.out.1, HY.out.2.1⟩
              · intro j hj
                by_cases hjk : j < l'.length
                · rw [List.getD_eq_getElem?_getD, List.getElem?_append_left hjk, ← List.getD_eq_getElem?_getD]
                  exact HZ'.out j hjk
                · obtain rfl : j = l'.length := by omega
                  rw [List.getD_eq_getElem?_getD, List.getElem?_append_right (Nat.le_refl _), HXG.out]
                  simpa using HY.out.2.2
            case measure => simp [intOf]; omega
          · obtain ⟨b2, off2, zs, rfl, hb2, hzl, hc2, hI2⟩ := HI.out (by omega)
            have hmod : l'.length % n2 < n2 := Nat.mod_lt _ (by omega)
            have hck2 := ((X4.out.trans HX.out).cell (p := ⟨b2, off2 + l'.length % n2, none⟩) hb2).trans (hc2 _ (by rw [hzl]; exact hmod))
            have hn1 : 0 < n2 := by omega
            have hn3 : (0 : Int) < (n2 : Int) := by omega
            have hI3 := hI2 _ (List.getElem_mem (by rw [hzl]; exact hmod))
            generalize zs[l'.length % n2] = z at *
            clear hc2 hI2 hzl hn0
            go_upto_region 11 with (fail)
            obtain ⟨Y, hY⟩ : ∃ Y, IntKind.u16.wrap (x + IntKind.u16.wrap ((wrap64 (z.tmod 9 + 9)).tmod 9)) = Y := ⟨_, rfl⟩
            rw [hY]
            have HY := hide (show 0 ≤ Y ∧ Y ≤ 65535 ∧ (0 < Y ↔ 0 < x) from by rw [← hY]; exact stays_add hx2 hx3)
            clear hY
            go_wp2_with (at_builtin; refine wpList_app_at u16G T_u16G rfl _ _ rfl (g + 1) _ _ l' rfl HO.out Y _ _ rfl _ rfl rfl (by omega) (by omega) (by have := HB.out.lt; omega) ?_; intro g9 c9 w9 o9 t9 l9; have B9 := hide (HB.out.touch t9 (fun h => by have := (own_lt HO.out h).1; omega)); have d9 := B9.out.cell 2; have k9 := B9.out.frozen 2; have O9 := hide o9; have T9 := hide t9; clear o9 t9 l9)
            go_roundw
            case rel =>
              refine ⟨l'.length + 1, l' ++ [Y], _, by go_num, by omega, by simp, ?_, ?_, B9.out.set_ 2 _, O9.out.setCell (by show g < g + 1; omega) _, (HX.out.of_below (T9.out.to_below (by have := HB.out.lt; omega) (fun q hq => (own_lt HO.out hq).1)) (by omega)).setCell (by show w4.heap.size ≤ g; omega) _⟩
              · intro y hy
                rcases List.mem_append.1 hy with hy | hy
                · exact HU'.out y hy
                · rw [List.mem_singleton.1 hy]; exact ⟨HY.out.1, HY.out.2.1⟩
              · intro j hj
                by_cases hjk : j < l'.length
                · rw [List.getD_eq_getElem?_getD, List.getElem?_append_left hjk, ← List.getD_eq_getElem?_getD]
                  exact HZ'.out j hjk
                · obtain rfl : j = l'.length := by omega
                  rw [List.getD_eq_getElem?_getD, List.getElem?_append_right (Nat.le_refl _), HXG.out]
                  simpa using HY.out.2.2
            case measure => simp [intOf]; omega
    · have hle : l'.length = l.length := by omega
      have HA := hide (show Alike l l' from ⟨hle, fun j => by
        by_cases hj : j < l'.length
        · exact HZ'.out j hj
        · rw [List.getD_eq_getElem?_getD, List.getElem?_eq_none (by omega), List.getD_eq_getElem?_getD, List.getElem?_eq_none (by omega)]⟩)
      have HR' := hide (row16_ownG HO.out)
      have BPr := hide (BP4.out.ext HX.out)
      have r0 := HB.out.at 0 rfl; have r1 := HB.out.at 1 rfl; have r2 := HB.out.at 2 rfl; have rz := HB.out.lt
      have p0 := BPr.out.at 0 rfl; have p1 := BPr.out.at 1 rfl; have p2 := BPr.out.at 2 rfl; have pz := BPr.out.lt
      have HX5 := hide (X4.out.trans HX.out)
      have O4r := hide (O4.out.ext HX.out)
      have hel : ofErr W H pW pH s l'.length = er := by rw [hle]; exact HE.out
      have HEL := hide hel
      have HGL := hide (show ofAll l' W H pW pH s = G by rw [ofAll_alike HA.out]; exact HG.out)
      clear hel hle hx HI HU HU' HZ'
      go_wp2_with fail
      refine (gtOf_any W H av l' cv pW pH s _ HR'.out).mono ?_
      rintro e w6 ⟨v6, rfl, x6, o6⟩
      obtain ⟨a6, c6, rfl⟩ := o6.slice
      rw [HGL.out] at o6
      rw [HGL.out, HM.out, HEL.out]
      rw [HM.out] at o6
      have O6 := hide o6
      have O46 := hide (O4r.out.ext x6)
      have X6 := hide (HX5.out.trans x6)
      clear o6 x6 q0 q1 q2 qz p0 p1 p2 pz r0 r1 r2 rz BPr HB HO HR' O4r HX5 HX BFr
      go_wp2_with fail
      go_loopw [14] (fun i wy => ∃ j : Nat, i = .int .i64 (j : Int) ∧ j ≤ m ∧ Ext w6 wy) (fun i _ => m - (intOf i).toNat)
      case atStart => exact ⟨0, rfl, Nat.zero_le _, Ext.refl _⟩
      case round =>
        obtain ⟨j, rfl, hj, hx⟩ := hrel
        have HXj := hide hx
        by_cases hlt2 : j < m
        · obtain ⟨q, hq⟩ : ∃ q, G[j]? = some q := ⟨_, List.getElem?_eq_getElem (by rw [HM.out]; exact hlt2)⟩
          obtain ⟨ga, rfl, za, ca⟩ := own_gate_at (O46.out.ext hx) hq
          obtain ⟨gb, rfl, zb, cb⟩ := own_gate_at (O6.out.ext hx) hq
          obtain ⟨⟨q1, q2⟩, ⟨q3, q4⟩⟩ := q
          obtain ⟨ca0, ca1, ca2, ca3⟩ := ca
          obtain ⟨cb0, cb1, cb2, cb3⟩ := cb
          simp only at ca0 ca1 ca2 ca3 cb0 cb1 cb2 cb3
          have hEq := fun (w : World) => (eqIn_gate 9995 q1 q2 q3 q4 q1 q2 q3 q4 w)
          simp only [beq_self_eq_true, Bool.and_self] at hEq
          clear hq hx
          go_wp2_with fail
          go_quiet (fail)
          go_wp2
          go_roundw
          case rel => exact ⟨j + 1, by go_num, by omega, HXj.out.drewN _⟩
          case measure => simp [intOf]; omega
        · go_wp2_with (go_at_call 57; refine (awake12_any _).mono ?_; rintro e w7 ⟨rfl, hb7⟩; obtain ⟨hc7, hf7⟩ := hb7.cells; have hz7 := hb7.size; (repeat (first | rw [World.size_alloc] at hz7 | rw [World.size_drew] at hz7)))
          go_ret
          exact ⟨rfl, (X6.out.trans HXj.out).trans (by (with_reducible (repeat' (first | exact Ext.refl _ | assumption | refine Ext.drew ?_ | refine Ext.drewN ?_ _ | refine Ext.alloc ?_ _ | refine Ext.setCell ?_ ?_ _ | refine Ext.trans ?_ (by assumption)))); all_goals (first | (simp; done) | (simp; omega)))⟩
end Go.Proofs.Ytifbmapianddcaa
