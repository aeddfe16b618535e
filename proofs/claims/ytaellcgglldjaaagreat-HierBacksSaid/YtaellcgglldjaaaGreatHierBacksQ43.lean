/- Part of a proof: HierX FloodI0 StarM0 HierY HierZ HierLa HierV. -/
import Derived.Test.YtaellcgglldjaaaGreatHierBacksQ40
import Derived.Test.YtaellcgglldjaaaGreatHierBacksQ41
import Derived.Test.YtaellcgglldjaaaGreatHierBacksQ34
import Derived.Test.YtaellcgglldjaaaGreatHierBacksQ42
import Derived.Test.YtaellcgglldjaaaGreatHierBacksQ14
import Derived.Test.YtaellcgglldjaaaGreatHierBacksQ02
import Derived.Test.YtaellcgglldjaaaGreatHierBacksQ24
set_option linter.all false
set_option linter.unusedVariables false
set_option linter.unusedSimpArgs false
namespace Go.Proofs.YtaellcgglldjaaaGreat
open Go.RowKit
set_option maxRecDepth 100000 in
theorem cells15_any (a b : Option Addr) (l m : List Cell) (c d : Nat) (w : World) (hl : l.length ≤ 1000000) (ha : RowC w a l) (hb : RowC w b m) :
  Calls Tryz.prog 16 #[.slice a l.length c, .slice b m.length d] w fun e w' => e = .returned (.bool (decide (l = m))) ∧ Ext w w' := by
 by_cases hlen : l.length = m.length
 ·have HA := hide ha
  have HB := hide hb
  have HLM := hide hlen
  obtain ⟨n, hn⟩ : ∃ n, l.length = n := ⟨_, rfl⟩
  have HN := hide hn
  rw [← hlen, hn]
  rw [hn] at hl
  clear ha hb hlen hn
  go_enter Tryz.func16, Tryz.ntmps16
  go_wp2_with fail
  go_loopw [5] (fun i wr => ∃ k : Nat, k ≤ n ∧ i = .int .i64 k ∧ l.take k = m.take k ∧ Ext w wr) (fun i _ => n - (intOf i).toNat)
  case atStart => exact ⟨0, Nat.zero_le _, rfl, rfl, z_x⟩
  case round =>
   obtain ⟨k, hk, rfl, htk, hx⟩ := hrel
   have HT := hide htk
   have HX := hide hx
   clear htk hx
   by_cases hlt : k < n
   ·have h1 : k < l.length := by rw [HN.out]; exact hlt
    have h2 : k < m.length := by rw [← HLM.out]; exact h1
    obtain ⟨ba, oa, rfl, za, ca⟩ := HA.out (by omega)
    obtain ⟨bb, ob, rfl, zb, cb⟩ := HB.out (by omega)
    have d0 := (HX.out.cell (p := ⟨ba, oa + k * 2, none⟩) za).trans (ca k h1).1
    have d2 := (HX.out.cell (p := ⟨ba, oa + k * 2 + 1, none⟩) za).trans (ca k h1).2
    have d1 := (HX.out.cell (p := ⟨bb, ob + k * 2, none⟩) zb).trans (cb k h2).1
    have d3 := (HX.out.cell (p := ⟨bb, ob + k * 2 + 1, none⟩) zb).trans (cb k h2).2
    have z0 : ba < wr.heap.size := Nat.lt_of_lt_of_le za HX.out.size
    have z1 : bb < wr.heap.size := Nat.lt_of_lt_of_le zb HX.out.size
    have jk : (k : Int) < (n : Int) := by omega
    have e1 : l[k]? = some l[k] := List.getElem?_eq_getElem h1
    have e2 : m[k]? = some m[k] := List.getElem?_eq_getElem h2
    obtain ⟨x, hx⟩ : ∃ x, l[k] = x := ⟨_, rfl⟩
    obtain ⟨y, hy⟩ : ∃ y, m[k] = y := ⟨_, rfl⟩
    rw [hx] at d0 d2 e1
    rw [hy] at d1 d3 e2
    have E1 := hide e1
    have E2 := hide e2
    clear h1 h2 ca cb hx hy e1 e2
    by_cases hxy : x = y
    ·have HN1 : Hid (l.take (k + 1) = m.take (k + 1)) := hide (by rw [List.take_add_one, List.take_add_one, E1.out, E2.out, HT.out, hxy])
     have hq1 : ∀ w, (Op.equalIn 10000 28 (.agg #[.int .i64 x.1, .int .i64 x.2]) (.agg #[.int .i64 y.1, .int .i64 y.2])).run Tryz.prog w = .ok true w := fun w => by rw [eq_cell x y w, cellB_eq]; simp [hxy]
     have hx := HX.out
     clear hxy
     go_wp2
     go_quiet (fail)
     go_wp2
     go_roundw
     case rel => exact ⟨k + 1, hlt, by go_num, HN1.out, z_x⟩
     case measure => simp [intOf]; omega
    ·have HF : Hid (decide (l = m) = false) := hide (by simp only [decide_eq_false_iff_not]; intro e; rw [e, E2.out] at E1; exact hxy (Option.some.inj E1.out).symm)
     have hq1 : ∀ w, (Op.equalIn 10000 28 (.agg #[.int .i64 x.1, .int .i64 x.2]) (.agg #[.int .i64 y.1, .int .i64 y.2])).run Tryz.prog w = .ok false w := fun w => by rw [eq_cell x y w, cellB_eq]; simp [hxy]
     clear hxy
     have hx := HX.out
     go_wp2
     go_quiet (fail)
     go_wp2
     go_ret
     exact ⟨by rw [HF.out] <;> rfl, z_x⟩
   ·obtain rfl : n = k := by omega
    have HF : Hid (decide (l = m) = true) := hide (by
     have h := HT.out
     rw [List.take_of_length_le (by rw [HN.out]; exact Nat.le_refl _), List.take_of_length_le (by rw [← HLM.out, HN.out]; exact Nat.le_refl _)] at h
     simpa using h)
    have hx := HX.out
    go_wp2
    go_ret
    exact ⟨by rw [HF.out] <;> rfl, z_x⟩
 ·have HF : Hid (decide (l = m) = false) := hide (by simp only [decide_eq_false_iff_not]; intro e; exact hlen (by rw [e]))
  have hb0 : ((l.length : Int) != (m.length : Int)) = true := by simp; omega
  obtain ⟨n, hn⟩ : ∃ n, l.length = n := ⟨_, rfl⟩
  obtain ⟨n2, hn2⟩ : ∃ n, m.length = n := ⟨_, rfl⟩
  have hb1 : (n != n2) = true := by simp; omega
  rw [hn, hn2] at hb0 ⊢
  clear ha hb hlen hn hn2
  go_enter Tryz.func16, Tryz.ntmps16
  go_wp2
  go_ret
  exact ⟨by rw [HF.out] <;> rfl, z_x⟩
theorem aw15_land : LandP 4 2 aw15 0 0 4 2 := ⟨by decide, by decide, aw15_good.u16, by decide⟩
theorem aw15_adj : ∀ v m, m ∈ (mapNet aw15_land).adj v → m < (mapNet aw15_land).n := fun _ m h => (mapNet aw15_land).lt m (adj_op aw15_land h)
theorem aw15_lt (s : Nat) (hs : s < 8) : ∀ u, (start0 s).st u = 1 → u < 8 := fun u hu => by
 have : updN (fun _ => 0) s 1 u = 1 := hu
 unfold updN at this
 split at this
 ·omega
 ·cases this
theorem aw15_star : Srch 4 2 aw15 0 1 3 1 9 [4, 5, 6, 7] 3 4 0 := .inr ⟨by decide, aw15_land, .inl ⟨by decide +kernel, by decide +kernel, runF_ok (k := 20) aw15_adj (aw15_lt 4 (by omega)) (by decide +kernel)⟩⟩
theorem row16_blk15 {w : World} {b : Nat} {l : List Int} (h : Blk w b 84 (l.map (Value.int .u16)).toArray) : Row16 w (some ⟨b, 0, none⟩) l := fun _ => ⟨b, 0, rfl, h.lt, fun k hk => by
 rw [Nat.zero_add, h.cell k]
 simp [hk]⟩
set_option maxRecDepth 100000 in
set_option maxHeartbeats 1000000 in
theorem awake15_any (w : World) : Calls Tryz.prog 10 #[] w fun e w' => e = .returned (.bool true) ∧ Ext w w' := by
 go_enter Tryz.func10, Tryz.ntmps10
 go_wp2_with fail
 obtain ⟨w1, hw1⟩ : ∃ z, z = (w.alloc (.cells #[.int .u16 1, .int .u16 1, .int .u16 1, .int .u16 1, .int .u16 1, .int .u16 1, .int .u16 1, .int .u16 1] 84)).alloc (.cells #[.int .i64 4, .int .i64 2, .slice (some ⟨w.heap.size, 0, none⟩) 8 8] 26) := ⟨_, rfl⟩
 have X1 := hide (show Ext w w1 by rw [hw1]; exact z_x)
 have B0 := hide (show Blk w1 w.heap.size 84 (aw15.map (Value.int .u16)).toArray by rw [hw1]; exact Blk.over (Blk.new_ rfl))
 have BF := hide (show Blk w1 (w.heap.size + 1) 26 #[.int .i64 4, .int .i64 2, .slice (some ⟨w.heap.size, 0, none⟩) 8 8] by rw [hw1]; exact Blk.new_ (by simp))
 obtain ⟨f, hf⟩ : ∃ f, w.heap.size = f := ⟨_, rfl⟩
 rw [hf] at B0 BF hw1
 rw [hf]
 rw [← hw1]
 clear hw1 hf
 have HN := hide (rdNew_yes (w := w1) 8 aw15_good (row16_blk15 B0.out) (by rw [aw15_g]; decide))
 refine HN.out.mono ?_
 clear HN
 rintro e w2 ⟨p, R, rfl, hw, x2, _, _⟩
 have HW := hide hw
 have B2 := hide (B0.out.ext x2)
 have BF2 := hide (BF.out.ext x2)
 have X2 := hide (X1.out.trans x2)
 have HFI := hide (hrFind_uni hw aw15_good aw15_hl (by rw [aw15_g]; decide) (0, 1) (3, 1) 9)
 obtain ⟨pb, hpb⟩ : ∃ z, p.b = z := ⟨_, rfl⟩
 rw [hpb] at HFI ⊢
 simp only at HFI
 clear hw x2 B0 BF X1 hpb
 go_wp2_with fail
 refine HFI.out.mono ?_
 rintro e w3 ⟨x3, pp, cc, kk, er, v, hs, rfl, ho⟩
 obtain ⟨rfl, rfl, rfl, rfl⟩ := hs.one aw15_srch
 have B3 := hide (B2.out.ext x3)
 have BF3 := hide (BF2.out.ext x3)
 have X3 := hide (X2.out.trans x3)
 have O3 := hide ho
 obtain ⟨va, vc, rfl⟩ := ho.slice
 simp only [List.length_cons, List.length_nil, Nat.zero_add, Nat.reduceAdd] at O3 ⊢
 clear hs ho x3 HFI HW B2 BF2
 have y0 := BF3.out.at 0 rfl; have y1 := BF3.out.at 1 rfl; have y2 := BF3.out.at 2 rfl; have yz := BF3.out.lt
 have HSF := hide (fun (w' : World) (x : Ext w3 w') => sFind_uni (w := w') 4 2 (some ⟨f, 0, none⟩) (l := aw15) 8 0 1 3 1 9 ((row16_blk15 B3.out).ext x) aw15_good.u16)
 rw [show aw15.length = 8 from rfl] at HSF
 go_wp2_with fail
 refine (HSF.out _ ((Ext.refl _).alloc _)).mono ?_
 rintro e w5 ⟨x5, p5, c5, k5, e5, v5, hs5, rfl, ho5⟩
 obtain ⟨rfl, rfl, rfl, rfl⟩ := hs5.one aw15_star
 obtain ⟨v5a, v5c, rfl⟩ := ho5.slice
 have R5 := hide (show Blk w5 w3.heap.size 40 #[.slice va 6 vc, .int .u64 5, .int .i64 4] from (Blk.new_ rfl).ext x5)
 have X35 := hide (((Ext.refl w3).alloc _).trans x5)
 simp only [List.length_map, List.length_cons, List.length_nil, Nat.zero_add, Nat.reduceAdd]
 have O5 := hide (O3.out.ext X35.out)
 clear hs5 ho5 x5 y0 y1 y2 yz HSF B3 BF3 O3
 have r0 := R5.out.at 0 rfl; have r1 := R5.out.at 1 rfl; have r2 := R5.out.at 2 rfl; have rz := R5.out.lt
 have HCE := hide (fun (w' : World) (x : Ext w5 w') (bv : Option Addr) (hb : RowC w' bv [(0, 1), (1, 1), (1, 0), (2, 0), (3, 0), (3, 1)]) => cells15_any va bv [(0, 1), (1, 1), (1, 0), (2, 0), (3, 0), (3, 1)] [(0, 1), (1, 1), (1, 0), (2, 0), (3, 0), (3, 1)] vc 6 w' (by decide) (Reads.rowC (n := 6) (c := vc) ((O5.out.ext x).reads)).2 hb)
 simp only [List.length_cons, List.length_nil, Nat.zero_add, Nat.reduceAdd, decide_true] at HCE
 go_wp2_with fail
 refine (HCE.out _ (((Ext.refl _).alloc _).alloc _) _ (Reads.rowC (n := 6) (c := 6) (reads_lit cellE _ #[.int .i64 0, .int .i64 1, .int .i64 1, .int .i64 1, .int .i64 1, .int .i64 0, .int .i64 2, .int .i64 0, .int .i64 3, .int .i64 0, .int .i64 3, .int .i64 1] 28 [(0, 1), (1, 1), (1, 0), (2, 0), (3, 0), (3, 1)] rfl _ _ _ (by simp) rfl)).2).mono ?_
 rintro e w7 ⟨rfl, x7⟩
 have S7 := hide (show Blk w7 w5.heap.size 40 #[.slice v5a 4 v5c, .int .u64 3, .int .i64 4] from ((Blk.new_ rfl).over).ext x7)
 have X7 := hide ((X3.out.trans X35.out).trans ((((Ext.refl w5).alloc (.cells #[.slice v5a 4 v5c, .int .u64 3, .int .i64 4] 40)).alloc (.cells #[.int .i64 0, .int .i64 1, .int .i64 1, .int .i64 1, .int .i64 1, .int .i64 0, .int .i64 2, .int .i64 0, .int .i64 3, .int .i64 0, .int .i64 3, .int .i64 1] 28)).trans x7))
 clear x7 r0 r1 r2 rz
 have s0 := S7.out.at 0 rfl; have s1 := S7.out.at 1 rfl; have s2 := S7.out.at 2 rfl; have sz := S7.out.lt
 go_wp2_with fail
 go_ret
 exact ⟨rfl, X7.out⟩
end Go.Proofs.YtaellcgglldjaaaGreat

namespace Go.Proofs.YtaellcgglldjaaaGreat
open Go.RowKit
end Go.Proofs.YtaellcgglldjaaaGreat

namespace Go.Proofs.YtaellcgglldjaaaGreat
open Go.RowKit
theorem r10In_any (W H x y : Int) (w : World) (hm : mayB W H = true) :
  Calls Tryz.prog 19 #[.agg #[.int .i64 W, .int .i64 H], .agg #[.int .i64 x, .int .i64 y]] w fun e w' => e = .returned (.bool (inB W H x y)) ∧ Ext w w' := by
 rw [inB_has hm]
 have e0 : hasB 0 0 W H x y = (decide (0 ≤ x) && decide (0 ≤ y) && decide (x < W) && decide (y < H)) := by
  rw [Bool.eq_iff_iff, hasB_true]
  simp
  omega
 rw [e0]
 clear hm e0
 go_enter Tryz.func19, Tryz.ntmps19
 go_wp2
 all_goals go_ret
 all_goals exact ⟨by simp <;> omega, z_x⟩
end Go.Proofs.YtaellcgglldjaaaGreat

namespace Go.Proofs.YtaellcgglldjaaaGreat
open Go.RowKit
set_option maxRecDepth 100000 in
theorem r14May15 {w : World} (W H : Int) (a : Option Addr) (n c : Nat) (s : Int) :
  Calls Tryz.prog 33 #[.agg #[.int .i64 W, .int .i64 H, .slice a n c], .int .i64 s] w fun e w' => e = .returned (.int .i64 (newE W H n s)) ∧ Ext w w' := by
 have H1 := hide (fun w' => r04Check_any W H a n c w')
 have H2 := hide (fun w' => rRight_any W H s w')
 by_cases h0 : checkE W H n = 0
 ·rw [h0] at H1
  by_cases h1 : rightB W H s = true
  ·rw [h1] at H2
   have he : newE W H n s = 0 := by unfold newE; rw [if_pos h0, if_pos h1]
   rw [he]
   clear h0 h1 he
   go_enter Tryz.func33, Tryz.ntmps33
   go_wp2_with (first
    | (go_at_call 74; refine (H1.out _).mono ?_; rintro e w1 ⟨rfl, hb1⟩; obtain ⟨hc1, hf1⟩ := hb1.cells; have hz1 := hb1.size; (repeat (first | rw [World.size_alloc] at hz1 | rw [World.size_drew] at hz1)); have z1_0 : w.heap.size < w1.heap.size := (by omega))
    | (go_at_call 75; refine (H2.out _).mono ?_; rintro e w2 ⟨rfl, hb2⟩; obtain ⟨hc2, hf2⟩ := hb2.cells; have hz2 := hb2.size; (repeat (first | rw [World.size_alloc] at hz2 | rw [World.size_drew] at hz2)); have z2_0 : w.heap.size < w2.heap.size := (by omega)))
   go_ret
   exact ⟨rfl, z_x⟩
  ·have h1 : rightB W H s = false := by simpa using h1
   rw [h1] at H2
   have he : newE W H n s = 10 := by unfold newE; rw [if_pos h0, if_neg (by rw [h1]; simp)]
   rw [he]
   clear h0 h1 he
   go_enter Tryz.func33, Tryz.ntmps33
   go_wp2_with (first
    | (go_at_call 74; refine (H1.out _).mono ?_; rintro e w1 ⟨rfl, hb1⟩; obtain ⟨hc1, hf1⟩ := hb1.cells; have hz1 := hb1.size; (repeat (first | rw [World.size_alloc] at hz1 | rw [World.size_drew] at hz1)); have z1_0 : w.heap.size < w1.heap.size := (by omega))
    | (go_at_call 75; refine (H2.out _).mono ?_; rintro e w2 ⟨rfl, hb2⟩; obtain ⟨hc2, hf2⟩ := hb2.cells; have hz2 := hb2.size; (repeat (first | rw [World.size_alloc] at hz2 | rw [World.size_drew] at hz2)); have z2_0 : w.heap.size < w2.heap.size := (by omega)))
   go_ret
   exact ⟨rfl, z_x⟩
 ·have he : newE W H n s = checkE W H n := by unfold newE; rw [if_neg h0]
  rw [he]
  generalize checkE W H n = er at *
  have hq : (er == 0) = false := by simpa using h0
  clear h0 he
  go_enter Tryz.func33, Tryz.ntmps33
  go_wp2_with (go_at_call 74; refine (H1.out _).mono ?_; rintro e w1 ⟨rfl, hb1⟩; obtain ⟨hc1, hf1⟩ := hb1.cells; have hz1 := hb1.size; (repeat (first | rw [World.size_alloc] at hz1 | rw [World.size_drew] at hz1)); have z1_0 : w.heap.size < w1.heap.size := (by omega))
  go_ret
  exact ⟨rfl, z_x⟩
set_option maxRecDepth 100000 in
theorem may15_any (W H : Int) (a : Option Addr) (n c : Nat) (s fx fy tx ty b : Int) (w : World) :
  Calls Tryz.prog 9 #[.agg #[.int .i64 W, .int .i64 H, .slice a n c], .agg #[.int .i64 s, .int .i64 fx, .int .i64 fy, .int .i64 tx, .int .i64 ty, .int .i64 b]] w fun e w' => e = .returned (.bool (decide (n ≤ 150) && decide (newE W H n s = 0))) ∧ Ext w w' := by
 have HM := hide (fun (w' : World) => r14May15 (w := w') W H a n c s)
 by_cases hn : n ≤ 150
 ·have hb : decide ((n : Int) ≤ 150) = true := by simp; omega
  rw [show decide (n ≤ 150) = true by simpa using hn, Bool.true_and]
  obtain ⟨er, her⟩ : ∃ z, newE W H n s = z := ⟨_, rfl⟩
  rw [her] at HM ⊢
  have hz : (er == 0) = decide (er = 0) := by rw [Bool.eq_iff_iff]; simp
  clear hn her
  go_enter Tryz.func9, Tryz.ntmps9
  go_wp2_with (go_at_call 33; refine (HM.out _).mono ?_; rintro e w1 ⟨rfl, hb1⟩; obtain ⟨hc1, hf1⟩ := hb1.cells; have hz1 := hb1.size; (repeat (first | rw [World.size_alloc] at hz1 | rw [World.size_drew] at hz1)); have z1_0 : w.heap.size < w1.heap.size := (by omega))
  go_ret
  exact ⟨by rw [← hz] <;> rfl, z_x⟩
 ·have hb : decide ((n : Int) ≤ 150) = false := by simp; omega
  rw [show decide (n ≤ 150) = false by simpa using hn, Bool.false_and]
  clear hn HM
  go_enter Tryz.func9, Tryz.ntmps9
  go_wp2_with fail
  go_ret
  exact ⟨rfl, z_x⟩
theorem new_good {W H s : Int} {l : List Int} (hu : U16s l) (he : newE W H l.length s = 0) : Good W H s l := by
 unfold newE at he
 by_cases h0 : checkE W H l.length = 0
 ·rw [if_pos h0] at he
  by_cases hr2 : rightB W H s = true
  ·exact ⟨h0, hr2, hu⟩
  ·rw [if_neg hr2] at he; cases he
 ·rw [if_neg h0] at he; exact absurd he h0
end Go.Proofs.YtaellcgglldjaaaGreat

namespace Go.Proofs.YtaellcgglldjaaaGreat
open Go.RowKit
theorem gates_few {W H s : Int} {l : List Int} (g : Good W H s l) (hl : l.length ≤ 150) : (gatesA W H s l).length ≤ 45000 := by
 have h1 : cnt W H s ≤ W * H := by
  obtain ⟨r1, r2, r3, r4, r5, r6⟩ := rightB_true.1 g.right
  have b1 := acr_bd W s r5 r6 r1 r2
  have b2 := acr_bd H s r5 r6 r3 r4
  have hle : ∀ L : Int, 1 ≤ L → acr L s ≤ L := fun L hL => by
   unfold acr
   apply Int.ediv_le_of_le_mul (by omega)
   have := Int.mul_nonneg (show (0 : Int) ≤ L - 1 by omega) (show (0 : Int) ≤ s - 1 by omega)
   rw [Int.sub_mul, Int.mul_sub] at this
   omega
  unfold cnt
  exact Int.mul_le_mul (hle W r1) (hle H r3) (by omega) (by omega)
 have h2 := (checkE_ok.1 g.ok).2
 have h3 := g.cnt
 have h4 := ofG_len (l := l) g.right (n := (cnt W H s).toNat) (by omega)
 unfold gatesA
 omega
end Go.Proofs.YtaellcgglldjaaaGreat

namespace Go.Proofs.YtaellcgglldjaaaGreat
open Go.RowKit
theorem gidx_mem {q : Cell} {l : List Cell} : 0 ≤ gidx (fun c => decide (c = q)) l ↔ q ∈ l := by
 unfold gidx
 rcases h : l.findIdx? (fun c => decide (c = q)) with _ | i
 ·simp only
  rw [List.findIdx?_eq_none_iff] at h
  constructor
  ·intro h0; omega
  ·intro hm
   have := h q hm
   simp at this
 ·simp only
  obtain ⟨hi, hp, _⟩ := List.findIdx?_eq_some_iff_getElem.1 h
  constructor
  ·intro _
   have := of_decide_eq_true hp
   rw [← this]
   exact List.getElem_mem hi
  ·intro _; omega
theorem contC_any {w : World} {a : Option Addr} {l : List Cell} {n : Nat} (c : Nat) (hn : l.length = n) (hl : n ≤ 1000000) (hr : RowC w a l) (q : Cell) :
  Calls Tryz.prog 50 #[.slice a n c, .agg #[.int .i64 q.1, .int .i64 q.2]] w fun e w' => e = .returned (.bool (decide (q ∈ l))) ∧ Ext w w' := by
 have HI := hide (fun (w' : World) (x : Ext w w') => indexC_any (w := w') c hn hl (hr.ext x) q)
 have HG := hide (gidx_mem (q := q) (l := l))
 generalize gidx (fun c => decide (c = q)) l = z at *
 obtain ⟨b, hb⟩ : ∃ b, decide (q ∈ l) = b := ⟨_, rfl⟩
 rw [hb]
 have HZ := hide (show decide (0 ≤ z) = b by rw [← hb]; exact decide_eq_decide.2 HG.out)
 obtain ⟨qx, qy⟩ := q
 simp only at HI ⊢
 clear hn hr hb HG
 go_enter Tryz.func50, Tryz.ntmps50
 go_wp2_with fail
 refine (HI.out _ ((Ext.refl _).alloc _)).mono ?_
 rintro e w1 ⟨rfl, x1⟩
 have X1 := hide (((Ext.refl w).alloc _).trans x1)
 have hz := HZ.out
 clear x1
 go_wp2_with fail
 go_ret
 exact ⟨rfl, X1.out⟩
section
variable {w : World} {p : Spot} {R : Nat → Prop} {W H s : Int} {l : List Int}
def LegsE (w : World) (W H s : Int) (l : List Int) (f t a : Cell) (e : Ending) (w' : World) : Prop :=
 Ext w w' ∧
 ((¬ (inB W H f.1 f.2 = true ∧ inB W H t.1 t.2 = true ∧ inB W H a.1 a.2 = true) ∧ e = .returned (.tuple #[.slice none 0 0, .int .i64 10])) ∨
 ((inB W H f.1 f.2 = true ∧ inB W H t.1 t.2 = true ∧ inB W H a.1 a.2 = true) ∧ a ∉ nodesL W H (gatesA W H s l) f t ∧ e = .returned (.tuple #[.slice none 0 0, .int .i64 14])) ∨
 ((inB W H f.1 f.2 = true ∧ inB W H t.1 t.2 = true ∧ inB W H a.1 a.2 = true) ∧ a ∈ nodesL W H (gatesA W H s l) f t ∧ ∃ v, e = .returned (.tuple #[v, .int .i64 0]) ∧ Own (legA a) w' w.heap.size 56 v (legsL W H s l (gatesA W H s l) f t a)))
theorem legsL_len {f t a : Cell} (g : Good W H s l) : (legsL W H s l (gatesA W H s l) f t a).length ≤ l.length + (gatesA W H s l).length := by
 unfold legsL legsIn legsG
 rw [List.length_append, List.length_map]
 have h1 : (nodesL W H (gatesA W H s l) f t).length ≤ l.length := by
  have hn : (nodesL W H (gatesA W H s l) f t).Nodup := strict_nodup (nodesL_strict _ _ _ _ _)
  have h2 : ((nodesL W H (gatesA W H s l) f t).map (idxN W)).Nodup := by
   unfold List.Nodup
   rw [List.pairwise_map]
   refine List.Pairwise.imp_of_mem (fun {a b} ha hb hne e => hne ?_) hn
   exact idx_inj (node_in g ha) (node_in g hb) e
  have h3 := nodup_le h2 (n := l.length) (fun v hv => by
   obtain ⟨c, hc, rfl⟩ := List.mem_map.1 hv
   exact idx_len (checkE_ok.1 g.ok).2 (node_in g hc))
  simpa using h3
 have h4 := List.length_filter_le (fun c => decide (ofN W s c.1 c.2 = ofN W s a.1 a.2) && (!(decide (c = a)) && !(decide (distB W H s l a c = infI)))) (nodesL W H (gatesA W H s l) f t)
 have h5 : ((gatesA W H s l).flatMap (legG W l a)).length ≤ (gatesA W H s l).length := by
  generalize gatesA W H s l = G
  induction G with
  | nil => simp
  | cons g G ih =>
   rw [List.flatMap_cons, List.length_append, List.length_cons]
   have : (legG W l a g).length ≤ 1 := by
    unfold legG
    split
    ·simp
    ·split <;> simp
   omega
 omega
theorem nodesL_len {f t : Cell} (g : Good W H s l) : (nodesL W H (gatesA W H s l) f t).length ≤ l.length := by
 have hn : (nodesL W H (gatesA W H s l) f t).Nodup := strict_nodup (nodesL_strict _ _ _ _ _)
 have h2 : ((nodesL W H (gatesA W H s l) f t).map (idxN W)).Nodup := by
  unfold List.Nodup
  rw [List.pairwise_map]
  refine List.Pairwise.imp_of_mem (fun {a b} ha hb hne e => hne ?_) hn
  exact idx_inj (node_in g ha) (node_in g hb) e
 have h3 := nodup_le h2 (n := l.length) (fun v hv => by
  obtain ⟨c, hc, rfl⟩ := List.mem_map.1 hv
  exact idx_len (checkE_ok.1 g.ok).2 (node_in g hc))
 simpa using h3
set_option maxRecDepth 100000 in
set_option maxHeartbeats 1000000 in
theorem hrLegs_any (h : WorldAt w p R W H s l) (g : Good W H s l) (hl : l.length ≤ 150) (hgl : (gatesA W H s l).length ≤ 45000) (f t a : Cell) :
  Calls Tryz.prog 17 #[.pointer (some ⟨p.b, 0, none⟩), .agg #[.int .i64 f.1, .int .i64 f.2], .agg #[.int .i64 t.1, .int .i64 t.2], .agg #[.int .i64 a.1, .int .i64 a.2]] w (LegsE w W H s l f t a) := by
 have HLK := hide (fun (w' : World) (x : Ext w w') (ma : Option Addr) (mc : Nat) (hm : Reads cellE w' (.slice ma 1 mc) [a]) => look_any (h.ext x) f t [a] ma mc hm (by simp))
 have HLL := hide (legsL_len g (f := f) (t := t) (a := a))
 have HNL := hide (nodesL_len g (f := f) (t := t))
 have hll := hl
 obtain ⟨pb, hpb⟩ : ∃ z, p.b = z := ⟨_, rfl⟩
 rw [hpb] at HLK ⊢
 obtain ⟨fx, fy⟩ := f
 obtain ⟨tx, ty⟩ := t
 obtain ⟨ax, ay⟩ := a
 simp only [List.length_cons, List.length_nil, Nat.zero_add] at HLK
 clear h hpb g
 simp only
 go_enter Tryz.func17, Tryz.ntmps17
 go_upto_region 1 with (fail)
 obtain ⟨w1, hw1⟩ : ∃ z, z = ((w.alloc (.cells #[.int .i64 fx, .int .i64 fy] 28)).alloc (.cells #[.int .i64 tx, .int .i64 ty] 28)).alloc (.cells #[.int .i64 ax, .int .i64 ay] 28) := ⟨_, rfl⟩
 have X1 := hide (show Ext w w1 by rw [hw1]; exact (((Ext.refl _).alloc _).alloc _).alloc _)
 have F1 := hide (show Blk w1 w.heap.size 28 #[.int .i64 fx, .int .i64 fy] by rw [hw1]; exact (Blk.new_ rfl).over.over)
 have T1 := hide (show Blk w1 (w.heap.size + 1) 28 #[.int .i64 tx, .int .i64 ty] by rw [hw1]; exact (Blk.new_ (by simp)).over)
 have A1 := hide (show Blk w1 (w.heap.size + 1 + 1) 28 #[.int .i64 ax, .int .i64 ay] by rw [hw1]; exact Blk.new_ (by simp))
 rw [← hw1]
 obtain ⟨gb, hgb⟩ : ∃ z, w.heap.size = z := ⟨_, rfl⟩
 have HGB := hide hgb
 rw [hgb] at F1 T1 A1 ⊢
 clear hw1 hgb
 have f0 := F1.out.at 0 rfl; have f1 := F1.out.at 1 rfl; have fz := F1.out.lt
 have t0 := T1.out.at 0 rfl; have t1 := T1.out.at 1 rfl; have tz := T1.out.lt
 have a0 := A1.out.at 0 rfl; have a1 := A1.out.at 1 rfl; have az := A1.out.lt
 go_wp2_with fail
 refine (HLK.out _ (X1.out.trans ((Ext.refl _).alloc _)) _ _ (reads_lit cellE w1 #[.int .i64 ax, .int .i64 ay] 28 [(ax, ay)] rfl w1.heap.size 1 1 rfl rfl)).mono ?_
 rintro e w2 (⟨h1, rfl, x2⟩ | ⟨h1, lb, fa, fc, ga, gc, rfl, x2, L⟩)
 ·have X2 := hide ((X1.out.trans ((Ext.refl _).alloc _)).trans x2)
  have H1 := hide h1
  clear x2 h1
  go_wp2_with fail
  refine bodyPost_ret (v := .tuple #[.slice none 0 0, .int .i64 10]) (by simp [results, Tryz.results17, go_sem, *]) rfl ?_
  refine ⟨X2.out, .inl ⟨fun hh => ?_, rfl⟩⟩
  have := H1.out
  simp [hh.1, hh.2.1, hh.2.2] at this
 ·have X12 := hide (((Ext.refl w1).alloc _).trans x2)
  have X2 := hide (X1.out.trans X12.out)
  have H1 := hide (show inB W H fx fy = true ∧ inB W H tx ty = true ∧ inB W H ax ay = true by simpa using h1)
  have A2 := hide (A1.out.ext X12.out)
  have HN := hide (fun (w' : World) (x : Ext w2 w') => nodesM_any (L.ext x) (by omega))
  have HL := hide L
  have zw := X2.out.size
  clear x2 h1 L f0 f1 fz t0 t1 tz a0 a1 az F1 T1 A1
  have a0 := A2.out.at 0 rfl; have a1 := A2.out.at 1 rfl; have az := A2.out.lt
  go_upto_region 4 with (fail)
  have HNLb := HNL.out
  refine seqH_start (S := (fun W => (∀ b o, b < w2.heap.size → W.cell? ⟨b, o, none⟩ = w2.cell? ⟨b, o, none⟩) ∧ Ext w2 W)) [(0, true), (2, true), (1, false), (3, false), (4, true)] (by kernel_rfl) (by kernel_rfl) (by kernel_rfl) (by decide) (fun _ _ d _ _ h => by cases d <;> exact h) (by first | with_reducible exact pr_start _ | exact pr_of z_x) (fun hHeld => ?_)
  iterate 2 (apply SeqH.free; (· (simp only [z_0, z_1, z_2]; rfl)); (· first | exact Or.inr ⟨by rfl, rfl⟩ | (refine Or.inl ⟨by rfl, ?_⟩; intro w hSw; (try dsimp only at hSw); go_simp; try with_reducible rfl)); try simp only [Act.put, z_3, z_4, z_5])
  (apply SeqH.step; (· (simp only [z_0, z_1, z_2]; rfl)); intro K hK; go_simp; refine (HN.out _ z_x).mono ?_; rintro e w3 ⟨v3, rfl, x3, o3⟩; obtain ⟨va, vc, rfl⟩ := o3.slice; have RC := hide (Reads.rowC o3.reads).2; clear o3; go_wp2_with fail; refine hK.out _ _ (pr_of z_x) (fun hHeld => ?_); clear hK K; try simp only [Act.put, z_3, z_4, z_5])
  (apply SeqH.step; (· (simp only [z_0, z_1, z_2]; rfl)); intro K hK; go_simp; refine (contC_any vc rfl (by omega) (RC.out.ext (by first | exact z_r _ | exact z_x)) (ax, ay)).mono ?_; rintro e w4 ⟨rfl, x4⟩; go_wp2_with fail; refine hK.out _ _ (pr_of z_x) (fun hHeld => ?_); clear hK K; try simp only [Act.put, z_3, z_4, z_5])
  iterate 1 (apply SeqH.free; (· (simp only [z_0, z_1, z_2]; rfl)); (· first | exact Or.inr ⟨by rfl, rfl⟩ | (refine Or.inl ⟨by rfl, ?_⟩; intro w hSw; (try dsimp only at hSw); go_simp; try with_reducible rfl)); try simp only [Act.put, z_3, z_4, z_5])
  refine SeqH.done ?_
  have XE := hide hHeld.2
  have X4 := hide (X2.out.trans XE.out)
  have A4 := hide (A2.out.ext XE.out)
  clear hHeld a0 a1 az A2 x3 x4
  have a0 := A4.out.at 0 rfl; have a1 := A4.out.at 1 rfl; have az := A4.out.lt
  by_cases hm : (ax, ay) ∈ nodesL W H (gatesA W H s l) (fx, fy) (tx, ty)
  ·have hd : decide ((ax, ay) ∈ nodesL W H (gatesA W H s l) (fx, fy) (tx, ty)) = true := decide_eq_true hm
   rw [hd]
   have HM := hide hm
   clear hm hd HNLb
   go_wp2_with fail
   refine (hrLegsM_any (lb := lb) (ax, ay) _).mono ?_
   rintro e w5 ⟨rfl, hw5⟩
   have x5 : Ext w4 w5 := by rw [hw5]; exact ((Ext.refl _).alloc _).alloc _
   have BL : Blk w5 w4.heap.size 98 #[.pointer (some ⟨lb, 0, none⟩)] := by rw [hw5]; exact (Blk.new_ rfl).over
   have BA : Blk w5 (w4.heap.size + 1) 28 #[.int .i64 ax, .int .i64 ay] := by rw [hw5]; exact Blk.new_ (by simp)
   have z5 : w5.heap.size = w4.heap.size + 1 + 1 := by rw [hw5]; simp
   have zx := XE.out.size
   have hseq := hrLegs1_iter HL.out (XE.out.trans x5) (by omega) (a := (ax, ay)) H1.out.2.2 BL BA
   have eg : ∀ args w, (callFunc 99 args).run Tryz.prog w = .ok (.enter 99 args) w := enters_of Tryz.func99 (by kernel_rfl) rfl
   have HCO := hide (collect_any eg hseq (fun k hk => by rcases hk with hk | rfl | rfl <;> omega) (by have := HLL.out; omega))
   have X5 := hide (X4.out.trans x5)
   have zw5 := X5.out.size
   clear hw5 x5 BL BA z5 hseq eg
   go_wp2_with fail
   refine (HCO.out).mono ?_
   rintro e w6 ⟨v6, rfl, x6, o6⟩
   have O6 := hide (o6.lower (base' := w.heap.size) zw5)
   have X6 := hide (X5.out.trans x6)
   obtain ⟨v6a, v6c, rfl⟩ := o6.slice
   clear o6 x6
   go_wp2_with fail
   refine bodyPost_ret (v := .tuple #[.slice v6a (legsL W H s l (gatesA W H s l) (fx, fy) (tx, ty) (ax, ay)).length v6c, .int .i64 0]) (by simp [results, Tryz.results17, go_sem, *]) rfl ?_
   exact ⟨X6.out, .inr (.inr ⟨H1.out, HM.out, _, rfl, O6.out⟩)⟩
  ·have hd : decide ((ax, ay) ∈ nodesL W H (gatesA W H s l) (fx, fy) (tx, ty)) = false := decide_eq_false hm
   rw [hd]
   have HM := hide hm
   clear hm hd HNLb
   go_wp2_with fail
   refine bodyPost_ret (v := .tuple #[.slice none 0 0, .int .i64 14]) (by simp [results, Tryz.results17, go_sem, *]) rfl ?_
   exact ⟨X4.out, .inr (.inl ⟨H1.out, HM.out, rfl⟩)⟩
end
end Go.Proofs.YtaellcgglldjaaaGreat

namespace Go.Proofs.YtaellcgglldjaaaGreat
open Go.RowKit
theorem reads_at {α : Type} {E : Enc α} {w : World} {a : Option Addr} {n c : Nat} {l : List α} (h : Reads E w (.slice a n c) l) {k : Nat} {y : α} (hk : l[k]? = some y) :
  ∃ b off, a = some ⟨b, off, none⟩ ∧ b < w.heap.size ∧ ∀ (j : Nat) (u : Value), (E.cells y)[j]? = some u → w.cell? ⟨b, off + (k * E.size + j), none⟩ = some u := by
 rcases h with ⟨_, rfl⟩ | ⟨b, off, cap, hv, hb, hc⟩
 ·simp at hk
 ·injection hv with h1 _ _
  exact ⟨b, off, h1, hb, hc k y hk⟩
end Go.Proofs.YtaellcgglldjaaaGreat

