/- The walk of RedoOwn. -/
import Derived.Test.YtkioohhjjdlhiaaGreatRefK
import Derived.Test.YtkioohhjjdlhiaaGreatOwnP
import Derived.Test.YtkioohhjjdlhiaaGreatTurnP
import Derived.Test.YtkioohhjjdlhiaaGreatAwake14
set_option linter.all false
set_option linter.unusedVariables false
set_option linter.unusedSimpArgs false
namespace Go.Proofs.YtkioohhjjdlhiaaGreat
open Go.RowKit

theorem gates_fewO {W H s : Int} {l : List Int} (g : Good W H s l) (hl : l.length ≤ 260) : cnt W H s ≤ 260 ∧ (gatesA W H s l).length ≤ 50000 := by
 have h1 : cnt W H s ≤ W * H := by
  obtain ⟨r1, r2, r3, r4, r5, r6⟩ := rightB_true.1 g.right
  have b1 := acr_bd W s r5 r6 r1 r2
  have b2 := acr_bd H s r5 r6 r3 r4
  have hle : ∀ L : Int, 1 ≤ L → acr L s ≤ L := fun L hL => by
   unfold acr
   apply Int.ediv_le_of_le_mul (by omega)
   have := Int.mul_nonneg (show (0 : Int) ≤ L - 1 by omega) (show (0 : Int) ≤ s - 1 by omega)
   rw [Int.sub_mul, Int.mul_sub] at this
   omega
  unfold cnt
  exact Int.mul_le_mul (hle W r1) (hle H r3) (by omega) (by omega)
 have h2 := (checkE_ok.1 g.ok).2
 have h3 := g.cnt
 have h4 := ofG_len (l := l) g.right (n := (cnt W H s).toNat) (by omega)
 refine ⟨by omega, ?_⟩
 unfold gatesA
 omega
theorem good_0 {W H s : Int} {l : List Int} (g : Good W H s l) : newE W H l.length s = 0 := by
 unfold newE; rw [if_pos g.ok, if_pos g.right]
theorem good_new {W H s : Int} {l : List Int} (hu : U16s l) (he : newE W H l.length s = 0) : Good W H s l := by
 unfold newE at he
 by_cases h0 : checkE W H l.length = 0
 ·rw [if_pos h0] at he
  by_cases hr2 : rightB W H s = true
  ·exact ⟨h0, hr2, hu⟩
  ·rw [if_neg hr2] at he; cases he
 ·rw [if_neg h0] at he; exact absurd he h0
theorem wrong_x {w : World} {q : RSpot} {R : Nat → Prop} {W H s : Int} {l : List Int} {N : Nat} (h : RefS w q R W H s l N) (W2 H2 : Int) {a : Option Addr} {l' : List Int} (c : Nat) (hr : Row16 w a l') {ca : Option Addr} {cs : List Cell} (cc : Nat) (hc : RowC w ca cs) (hm : cs.length ≤ 1000000) :
  Calls Tryz.prog 26 #[.pointer (some ⟨q.b, 0, none⟩), .agg #[.int .i64 W2, .int .i64 H2, .slice a l'.length c], .slice ca cs.length cc] w fun e w' => e = .returned (.int .i64 (updE W H l W2 H2 l' cs)) ∧ Ext w w' := by
 by_cases h0 : checkE W2 H2 l'.length = 0
 ·by_cases h1 : W2 = W ∧ H2 = H
  ·obtain ⟨rfl, rfl⟩ := h1
   exact wrong_same h c hr cc hc hm h0
  ·rw [updE_size h0 h1]
   exact wrong_size h.blk W2 H2 a l'.length c ca cs.length cc h0 h1
 ·rw [updE_chk h0]
  exact wrong_chk q.b W2 H2 a l'.length c ca cs.length cc h0
theorem filt_snoc {α : Type} {p : α → Bool} {l : List α} {k : Nat} (hk : k < l.length) : ((l.take (k + 1)).filter p).length = ((l.take k).filter p).length + if p l[k] = true then 1 else 0 := by
 rw [List.take_add_one, List.getElem?_eq_getElem hk, List.filter_append, List.length_append]
 by_cases h : p l[k] = true <;> simp [h]
theorem filt_le {α : Type} (p : α → Bool) (l : List α) (k : Nat) : ((l.take k).filter p).length ≤ k := Nat.le_trans (List.length_filter_le _ _) (by rw [List.length_take]; omega)
theorem filt_all {α : Type} {p : α → Bool} {l : List α} (h : l.all p = true) : (l.filter p).length = l.length := by
 rw [List.filter_eq_self.2 (fun x hx => List.all_eq_true.1 h x hx)]

theorem eq_partsO (a b c a' b' c' : Int) (w : World) : (Op.equalIn 10000 63 (.agg #[.int .i64 a, .int .i64 b, .int .i64 c]) (.agg #[.int .i64 a', .int .i64 b', .int .i64 c'])).run Tryz.prog w = .ok ((a == a' && b == b') && c == c') w := by
 have u : Tryz.prog.underlying 63 = some (.struct (Tryz.prog.fieldsOf 63)) := by kernel_rfl
 have s : Tryz.prog.stoodInHeld 63 = false := by kernel_rfl
 rw [run_equalIn_struct w 9999 63 _ _ u s]
 cases h : a == a' <;> cases h' : b == b' <;> cases h'' : c == c' <;> simp [go_sem, h, h', h'']
theorem eq_parts0 (w : World) : (Op.equalIn 10000 63 (.agg #[.int .i64 0, .int .i64 0, .int .i64 0]) (.agg #[.int .i64 0, .int .i64 0, .int .i64 0])).run Tryz.prog w = .ok true w := eq_partsO 0 0 0 0 0 0 w

theorem field_zero (w : World) : (Instr.field 26 (.agg #[.int .i64 0, .int .i64 0, .slice none 0 0]) 1).run Tryz.prog w = .ok (.slice none 0 0) w := by kernel_rfl

set_option maxRecDepth 100000 in
set_option maxHeartbeats 6000000 in
theorem redoOwn_any {w : World} (W H : Int) (a : Option Addr) (l : List Int) (c : Nat) (s : Int) (W2 H2 : Int) (xa : Option Addr) (xl : List Int) (xc : Nat) (ca : Option Addr) (cs : List Cell) (cc : Nat) (hr : Row16 w a l) (hu : U16s l) (hr2 : Row16 w xa xl) (hu2 : U16s xl) (hc : RowC w ca cs) (hi : ∀ p ∈ cs, InI p.1 ∧ InI p.2) :
  Calls Tryz.prog 8 #[.agg #[.int .i64 W, .int .i64 H, .slice a l.length c], .int .i64 s, .agg #[.int .i64 W2, .int .i64 H2, .slice xa xl.length xc, .slice ca cs.length cc]] w fun e w' => e = .returned (.bool true) ∧ Ext w w' := by
 have HR := hide hr
 have HU := hide hu
 have HR2 := hide hr2
 have HU2 := hide hu2
 have HCS := hide hc
 have HI := hide hi
 have HM := hide (fun (w' : World) => r14May_any (w := w') W H a l.length c s)
 obtain ⟨n, hn⟩ : ∃ z, l.length = z := ⟨_, rfl⟩
 obtain ⟨n2, hn2⟩ : ∃ z, xl.length = z := ⟨_, rfl⟩
 obtain ⟨m, hm⟩ : ∃ z, cs.length = z := ⟨_, rfl⟩
 have HN := hide hn
 have HN2 := hide hn2
 have LM := hide hm
 rw [hn] at HM
 rw [hn, hn2, hm]
 have hep := eq_parts0
 have hfz0 := field_zero
 clear hr hu hr2 hu2 hc hi hn hn2 hm
 go_enter Tryz.func8, Tryz.ntmps8
 go_upto_region 2 with (fail)
 obtain ⟨w0, hw0⟩ : ∃ z, z = (w.alloc (.cells #[.int .i64 W, .int .i64 H, .slice a n c] 26)).alloc (.cells #[.int .i64 W2, .int .i64 H2, .slice xa n2 xc, .slice ca m cc] 80) := ⟨_, rfl⟩
 have X0 := hide (show Ext w w0 by rw [hw0]; exact ((Ext.refl _).alloc _).alloc _)
 have F0 := hide (show Blk w0 w.heap.size 26 #[.int .i64 W, .int .i64 H, .slice a n c] by rw [hw0]; exact (Blk.new_ rfl).over)
 have Q0 := hide (show Blk w0 (w.heap.size + 1) 80 #[.int .i64 W2, .int .i64 H2, .slice xa n2 xc, .slice ca m cc] by rw [hw0]; exact Blk.new_ (by simp))
 rw [← hw0]
 clear hw0
 have y0 := F0.out.at 0 rfl; have y1 := F0.out.at 1 rfl; have y2 := F0.out.at 2 rfl; have yz := F0.out.lt
 have u0 := Q0.out.at 0 rfl; have u1 := Q0.out.at 1 rfl; have u2 := Q0.out.at 2 rfl; have u3 := Q0.out.at 3 rfl; have uz := Q0.out.lt
 go_wp2_with fail
 refine (nil_update (.bool true) W H a n c ca m cc).mono ?_
 rintro e w1 ⟨rfl, x1⟩
 clear y0 y1 y2 yz u0 u1 u2 u3 uz
 go_wp2_with fail
 refine (nil_table 0).mono ?_
 rintro e w2 ⟨rfl, x2⟩
 go_upto_region 4 with (fail)
 obtain ⟨w3, hw3⟩ : ∃ z, z = w2.alloc (.cells #[.slice none 0 0, .slice none 0 0] 74) := ⟨_, rfl⟩
 have x3 : Ext w2 w3 := by rw [hw3]; exact (Ext.refl _).alloc _
 have T3 := hide (show Blk w3 w2.heap.size 74 #[.slice none 0 0, .slice none 0 0] by rw [hw3]; exact Blk.new_ rfl)
 rw [← hw3]
 clear hw3
 have t0 := T3.out.at 0 rfl; have t1 := T3.out.at 1 rfl; have tz := T3.out.lt
 go_wp2_with fail
 refine (nil_field).mono ?_
 rintro e w4 ⟨rfl, x4⟩
 go_wp2_with fail
 refine (nil_parts).mono ?_
 rintro e w5 ⟨rfl, x5⟩
 go_wp2_with fail
 refine (nil_gates).mono ?_
 rintro e w6 ⟨rfl, x6⟩
 go_wp2_with fail
 refine (nil_same none).mono ?_
 rintro e w7 ⟨rfl, x7⟩
 go_wp2_with fail
 refine (nil_clone).mono ?_
 rintro e w8 ⟨rfl, x8⟩
 have X08 := hide (show Ext w0 w8 from ((((((x1.trans x2).trans x3).trans x4).trans x5).trans x6).trans x7).trans x8)
 have X8 := hide (X0.out.trans X08.out)
 have F8 := hide (F0.out.ext X08.out)
 have Q8 := hide (Q0.out.ext X08.out)
 clear x1 x2 x3 x4 x5 x6 x7 x8 t0 t1 tz T3 X08 F0 Q0 X0
 have y0 := F8.out.at 0 rfl; have y1 := F8.out.at 1 rfl; have y2 := F8.out.at 2 rfl; have yz := F8.out.lt
 have u0 := Q8.out.at 0 rfl; have u1 := Q8.out.at 1 rfl; have u2 := Q8.out.at 2 rfl; have u3 := Q8.out.at 3 rfl; have uz := Q8.out.lt
 have done : Hid (∀ w', Ext w w' → Calls Tryz.prog 15 #[] w' fun e w'' => e = .returned (.bool true) ∧ Ext w w'') := hide (fun w' x => (awake14_any w').mono (by rintro e w'' ⟨rfl, h⟩; exact ⟨rfl, x.trans h⟩))
 by_cases h1 : (260 : Int) < (n : Int)
 ·have d1 : decide ((260 : Int) < (n : Int)) = true := by simpa using h1
  go_wp2_with fail
  refine (done.out _ X8.out).mono ?_
  rintro e w9 ⟨rfl, x9⟩
  go_wp2_with fail
  go_ret
  exact ⟨rfl, x9⟩
 have d1 : decide ((260 : Int) < (n : Int)) = false := by simpa using h1
 by_cases h2 : (260 : Int) < (n2 : Int)
 ·have d2 : decide ((260 : Int) < (n2 : Int)) = true := by simpa using h2
  go_wp2_with fail
  refine (done.out _ X8.out).mono ?_
  rintro e w9 ⟨rfl, x9⟩
  go_wp2_with fail
  go_ret
  exact ⟨rfl, x9⟩
 have d2 : decide ((260 : Int) < (n2 : Int)) = false := by simpa using h2
 by_cases h3 : (20 : Int) < (m : Int)
 ·have d3 : decide ((20 : Int) < (m : Int)) = true := by simpa using h3
  go_wp2_with fail
  refine (done.out _ X8.out).mono ?_
  rintro e w9 ⟨rfl, x9⟩
  go_wp2_with fail
  go_ret
  exact ⟨rfl, x9⟩
 have d3 : decide ((20 : Int) < (m : Int)) = false := by simpa using h3
 by_cases h4 : newE W H n s = 0
 ·rw [h4] at HM
  have HG := hide (good_new HU.out (show newE W H l.length s = 0 by rw [HN.out]; exact h4))
  have hn260 : n ≤ 260 := by omega
  have hn2260 : n2 ≤ 260 := by omega
  have hm20 : m ≤ 20 := by omega
  have HGS := hide (fun (l' : List Int) (g' : Good W H s l') (h' : l'.length ≤ 260) => (gates_fewO g' h').2)
  have hpos : 1 ≤ n := by
   obtain ⟨hm, hl⟩ := checkE_ok.1 HG.out.ok
   obtain ⟨q1, q2, q3, q4⟩ := mayB_true.1 hm
   have := Int.mul_pos (show (0 : Int) < W by omega) (show (0 : Int) < H by omega)
   have := HN.out
   omega
  clear h4
  go_wp2_with fail
  refine (HM.out _).mono ?_
  rintro e wn ⟨rfl, x9⟩
  have FN := hide (F8.out.ext x9)
  have QN := hide (Q8.out.ext x9)
  have XN := hide (X8.out.trans x9)
  clear x9 y0 y1 y2 yz u0 u1 u2 u3 uz F8 Q8 X8 d1 d2 d3 h1 h2 h3
  have HRd := hide (fun (w' : World) (x : Ext w w') => (by have h := row16G_reads (HR.out.ext x) (by have := HN.out; omega) c; rw [HN.out] at h; exact h : Reads u16G w' (.slice a n c) l))
  have x0 := FN.out.at 0 rfl; have x1 := FN.out.at 1 rfl; have x2 := FN.out.at 2 rfl; have xz := FN.out.lt
  go_upto_region 8 with (fail)
  go_cut [12] (fun s12 wx => ∃ tb a9 c9, s12 = .pointer (some ⟨tb, 0, none⟩) ∧ Blk wx tb 26 #[.int .i64 W, .int .i64 H, .slice a9 n c9] ∧ Own u16G wx wn.heap.size 83 (.slice a9 n c9) l ∧ wn.heap.size ≤ tb ∧ Ext wn wx)
  case rest =>
   obtain ⟨tb, a9, c9, rfl, hB, hO, hz, hxc⟩ := hcut
   obtain ⟨w10, rfl⟩ : ∃ z, z = wc := ⟨_, rfl⟩
   obtain ⟨hb, rfl, hhb, hRm⟩ := room_of hO (by have := HN.out; omega)
   rw [show l.length * u16G.size = n by rw [HN.out]; exact Nat.mul_one n] at hRm
   have hhl := hRm.lt
   have hne := blk_ne hB hRm (by decide)
   have TB := hide hB
   have OG := hide hO
   have X10 := hide (XN.out.trans hxc)
   have F10 := hide (FN.out.ext hxc)
   have Q10 := hide (QN.out.ext hxc)
   have zn := hxc.size
   have zwn := QN.out.lt
   have RM := hide hRm
   clear hB hO hxc hRm x0 x1 x2 xz FN QN XN HRd
   have HNW := rdNew_yes (w := w10) c9 HG.out (row16_ownG OG.out) (HGS.out _ HG.out (by rw [HN.out]; exact hn260))
   rw [HN.out] at HNW
   have HNW := hide HNW
   have y0 := TB.out.at 0 rfl; have y1 := TB.out.at 1 rfl; have y2 := TB.out.at 2 rfl; have yz := TB.out.lt
   go_wp2_with fail
   refine (HNW.out).mono ?_
   rintro e w11 ⟨p, R, rfl, hw, x11, hF, hR⟩
   have z11 := x11.size
   have WA11 := hide hw
   have PF := hide (show ∀ k, p.F k → w10.heap.size ≤ k ∧ k < w11.heap.size from fun k hk => ⟨hF k hk, by obtain ⟨G, T, h1, _⟩ := hw; exact h1.foot hk⟩)
   have PR := hide (show ∀ k, R k → w10.heap.size ≤ k ∧ k < w11.heap.size from fun k hk => ⟨hR k hk, by obtain ⟨G, T, h1, _⟩ := hw; exact h1.lt k hk⟩)
   have TB11 := hide (TB.out.ext x11)
   have X11 := hide (X10.out.trans x11)
   have F11 := hide (F10.out.ext x11)
   have Q11 := hide (Q10.out.ext x11)
   have RM11 := hide (RM.out.ext x11)
   clear hw x11 hF hR HNW y0 y1 y2 yz TB X10 F10 Q10 RM OG
   go_wp2_with fail
   refine (same_nil p.b).mono ?_
   rintro e w12 ⟨rfl, x12⟩
   have z12 := x12.size
   have X12 := hide (X11.out.trans x12)
   have F12 := hide (F11.out.ext x12)
   have Q12 := hide (Q11.out.ext x12)
   have WA12 := hide (WA11.out.ext x12)
   have TB12 := hide (TB11.out.ext x12)
   have RM12 := hide (RM11.out.ext x12)
   have HNR := r14New_any (w := w12) c HG.out (HR.out.ext X12.out) (HGS.out _ HG.out (by rw [HN.out]; exact hn260))
   rw [HN.out] at HNR
   have HNR := hide HNR
   clear x12 WA11 TB11 X11 F11 Q11 RM11
   have y0 := F12.out.at 0 rfl; have y1 := F12.out.at 1 rfl; have y2 := F12.out.at 2 rfl; have yz := F12.out.lt
   go_wp2_with fail
   refine (HNR.out).mono ?_
   rintro e w13 ⟨q, rfl, x13, hq, _, _, _⟩
   have z13 := x13.size
   have X13 := hide (X12.out.trans x13)
   have F13 := hide (F12.out.ext x13)
   have Q13 := hide (Q12.out.ext x13)
   have WA13 := hide (WA12.out.ext x13)
   have TB13 := hide (TB12.out.ext x13)
   have RM13 := hide (RM12.out.ext x13)
   have QA13 := hide hq
   have QR := hide (show ∀ k, ((w12.heap.size ≤ k ∧ k < w13.heap.size) ∨ ∃ o, a = some ⟨k, o, none⟩) → (w12.heap.size ≤ k ∨ k < w.heap.size) ∧ k < w13.heap.size from fun k hk => by
    have hsz := X13.out.size
    rcases hk with h | ⟨o, h⟩
    ·exact ⟨.inl h.1, h.2⟩
    ·obtain ⟨b', off', e', hb', _⟩ := HR.out (by have := HN.out; omega)
     rw [h] at e'
     injection e' with e'
     injection e' with e1 _ _
     exact ⟨.inr (by omega), by omega⟩)
   clear x13 hq HNR y0 y1 y2 yz WA12 TB12 X12 F12 Q12 RM12
   go_wp2_with fail
   refine (rdClone_any WA13.out).mono ?_
   rintro e w14 ⟨v, V, rfl, x14, hv, hvF, hvS⟩
   have z14 := x14.size
   have X14 := hide (X13.out.trans x14)
   have F14 := hide (F13.out.ext x14)
   have Q14 := hide (Q13.out.ext x14)
   have WA14 := hide (WA13.out.ext x14)
   have TB14 := hide (TB13.out.ext x14)
   have RM14 := hide (RM13.out.ext x14)
   have QA14 := hide (RefS.ext QA13.out x14)
   have WC14 := hide hv
   have VF := hide (show ∀ k, v.F k → w13.heap.size ≤ k ∧ k < w14.heap.size from fun k hk => ⟨hvF k hk, by obtain ⟨G, T, h1, _⟩ := hv; exact h1.foot hk⟩)
   have VS := hide (show ∀ k, V k → w10.heap.size ≤ k from fun k hk => (hvS k hk).elim (fun h => (PR.out k h).1) (fun h => by omega))
   clear x14 hv hvF hvS WA13 TB13 X13 F13 Q13 RM13 QA13
   have hXs := X14.out.size
   have hbw : w.heap.size ≤ hb := by omega
   go_wp2_with fail
   go_loopw [17] (fun iv wr => ∃ k : Nat, k ≤ n ∧ iv = .int .i64 (k : Int) ∧ Room wr hb 83 n ∧ Touch (fun j => j = hb) w14 wr) (fun iv _ => n - (intOf iv).toNat)
   case atStart => exact ⟨0, Nat.zero_le _, rfl, RM14.out, Touch.refl _ _⟩
   case round =>
    obtain ⟨k, hk, rfl, hrm, ht⟩ := hrel
    have RMR := hide hrm
    have TT := hide ht
    have TBR := hide (TB14.out.touch ht hne)
    have zr := ht.size
    clear hrm ht
    have y0 := TBR.out.at 0 rfl; have y1 := TBR.out.at 1 rfl; have y2 := TBR.out.at 2 rfl; have yz := TBR.out.lt
    by_cases hlt : k < n
    ·have jk : (k : Int) < (n : Int) := by omega
     obtain ⟨o, ho⟩ := RMR.out.at hlt
     have hfz := RMR.out.frozen k
     have hlz := RMR.out.lt
     go_wp2_with fail
     have TQ := hide (touch1 wr hb k (.int .u16 7))
     have RQ := hide (RMR.out.set k (.int .u16 7))
     go_roundw
     case rel => exact ⟨k + 1, by omega, by go_num, RQ.out, TT.out.trans TQ.out⟩
     case measure => simp [intOf]; omega
    ·as_aux_lemma =>
      obtain rfl : n = k := by omega
      obtain ⟨wB, rfl⟩ : ∃ z, z = wr := ⟨_, rfl⟩
      have WAB := hide (WA14.out.touch TT.out (fun k hk e => by have := PF.out k hk; omega) (fun k hk e => by have := PR.out k hk; omega))
      have QAB := hide (RefS.touch QA14.out TT.out (fun k hk e => by have h1 := (QR.out k hk).1; omega))
      have WCB := hide (WC14.out.touch TT.out (fun k hk e => by have := VF.out k hk; omega) (fun k hk e => by have := VS.out k hk; omega))
      have FB := hide (F14.out.touch TT.out (by omega))
      have QB := hide (Q14.out.touch TT.out (by have := Q14.out.lt; omega))
      have XB := hide (X14.out.of_below (TT.out.to_below X14.out.size (fun k e => by omega)) (Nat.le_refl _))
      have HGa := hide (fun (w' : World) (x : Ext wB w') => (by obtain ⟨G, T, h1, h3⟩ := WAB.out.ext x; exact rdGates_any h1 h3.gates : Calls Tryz.prog 35 #[.pointer (some ⟨p.b, 0, none⟩)] w' (RetGates1 w' (gatesA W H s l))))
      have HFd := hide (fun (w' : World) (x : Ext wB w') => (by obtain ⟨G, T, h1, _⟩ := WAB.out.ext x; exact rdField_any h1 : Calls Tryz.prog 25 #[.pointer (some ⟨p.b, 0, none⟩)] w' (RetField w' W H l)))
      have hgl5 := HGS.out _ HG.out (by rw [HN.out]; exact hn260)
      obtain ⟨gl, hgl⟩ : ∃ z, (gatesA W H s l).length = z := ⟨_, rfl⟩
      have LG := hide hgl
      rw [hgl] at hgl5
      clear hgl RMR TT WA14 TB14 X14 F14 Q14 RM14 QA14 WC14
      go_wp2_with fail
      refine (HGa.out _ (Ext.refl _)).mono ?_
      clear y0 y1 y2 yz TBR
      rintro e w15 ⟨gv, rfl, x15, o15⟩
      obtain ⟨ga, gc, rfl⟩ := o15.slice
      have GRM := hide (show 0 < gl → ∃ gb, ga = some ⟨gb, 0, none⟩ ∧ wB.heap.size ≤ gb ∧ Room w15 gb 85 (gl * 4) from fun h0 => by
       obtain ⟨gb, e1, e2, e3⟩ := room_of o15 (by rw [LG.out]; exact h0)
       refine ⟨gb, e1, e2, ?_⟩
       rw [LG.out] at e3
       exact e3)
      rw [LG.out]
      have X15 := hide x15
      clear o15 x15
      go_wp2_with fail
      go_loopw [19] (fun iv wr => ∃ k : Nat, k ≤ gl ∧ iv = .int .i64 (k : Int) ∧ (0 < gl → ∃ gb, ga = some ⟨gb, 0, none⟩ ∧ wB.heap.size ≤ gb ∧ Room wr gb 85 (gl * 4)) ∧ Ext wB wr) (fun iv _ => gl - (intOf iv).toNat)
      case atStart => exact ⟨0, Nat.zero_le _, rfl, GRM.out, X15.out⟩
      case round =>
       obtain ⟨k, hk, rfl, hg, hx⟩ := hrel
       have XR := hide hx
       clear GRM
       by_cases hlt : k < gl
       ·obtain ⟨gb, rfl, hgb, hrm⟩ := hg (by omega)
        obtain ⟨o, ho⟩ := hrm.at (i := k * 4) (by omega)
        have hfz := hrm.frozen (k * 4)
        have hlz := hrm.lt
        have jk : (k : Int) < (gl : Int) := by omega
        have RQ := hide (hrm.set (k * 4) (.int .i64 (-9)))
        have XQ := hide (hx.setCell (p := ⟨gb, k * 4, none⟩) hgb (.int .i64 (-9)))
        clear hrm hx hg
        go_wp2_with fail
        go_roundw
        case rel => exact ⟨k + 1, by omega, by go_num, fun _ => ⟨gb, rfl, hgb, RQ.out⟩, XQ.out⟩
        case measure => simp [intOf]; omega
       ·as_aux_lemma =>
         obtain rfl : gl = k := by omega
         obtain ⟨wC, rfl⟩ : ∃ z, z = wr := ⟨_, rfl⟩
         clear hg hx
         go_wp2_with fail
         refine (HFd.out _ XR.out).mono ?_
         rintro e w16 ⟨fa, fc, rfl, x16, o16⟩
         rw [HN.out] at o16 ⊢
         obtain ⟨fb, rfl, hfb, hRf⟩ := room_of o16 (by have := HN.out; omega)
         rw [show l.length * u16G.size = n by rw [HN.out]; exact Nat.mul_one n] at hRf
         have RF16 := hide hRf
         have X16 := hide (XR.out.trans x16)
         have z16 := x16.size
         have zC := XR.out.size
         clear o16 x16 hRf
         go_upto_region 24 with (fail)
         obtain ⟨w17, hw17⟩ : ∃ z, z = w16.alloc (.cells #[.int .i64 W, .int .i64 H, .slice (some ⟨fb, 0, none⟩) n fc] 26) := ⟨_, rfl⟩
         have x17 : Ext w16 w17 := by rw [hw17]; exact (Ext.refl _).alloc _
         have TD := hide (show Blk w17 w16.heap.size 26 #[.int .i64 W, .int .i64 H, .slice (some ⟨fb, 0, none⟩) n fc] by rw [hw17]; exact Blk.new_ rfl)
         have X17 := hide (X16.out.trans x17)
         have RF17 := hide (RF16.out.ext x17)
         rw [← hw17]
         have hfne : w16.heap.size ≠ fb := by have := RF16.out.lt; omega
         clear hw17 x17 X16 RF16
         go_wp2_with fail
         go_loopw [21] (fun iv wr => ∃ k : Nat, k ≤ n ∧ iv = .int .i64 (k : Int) ∧ Room wr fb 83 n ∧ Blk wr w16.heap.size 26 #[.int .i64 W, .int .i64 H, .slice (some ⟨fb, 0, none⟩) n fc] ∧ Ext wB wr) (fun iv _ => n - (intOf iv).toNat)
         case atStart => exact ⟨0, Nat.zero_le _, rfl, RF17.out, TD.out, X17.out⟩
         case round =>
          obtain ⟨k, hk, rfl, hrm, htd, hx⟩ := hrel
          have XR3 := hide hx
          have TDR := hide htd
          have y0 := TDR.out.at 0 rfl; have y1 := TDR.out.at 1 rfl; have y2 := TDR.out.at 2 rfl; have yz := TDR.out.lt
          by_cases hlt : k < n
          ·have jk : (k : Int) < (n : Int) := by omega
           obtain ⟨o, ho⟩ := hrm.at hlt
           have hfz := hrm.frozen k
           have hlz := hrm.lt
           have RQ := hide (hrm.set k (.int .u16 9))
           have TQ := hide (htd.far (p := ⟨fb, k, none⟩) hfne (.int .u16 9))
           have XQ := hide (hx.setCell (p := ⟨fb, k, none⟩) (show wB.heap.size ≤ fb by omega) (.int .u16 9))
           clear hrm htd hx
           go_wp2_with fail
           go_roundw
           case rel => exact ⟨k + 1, by omega, by go_num, RQ.out, TQ.out, XQ.out⟩
           case measure => simp [intOf]; omega
          ·as_aux_lemma =>
            obtain rfl : n = k := by omega
            obtain ⟨wD, rfl⟩ : ∃ z, z = wr := ⟨_, rfl⟩
            clear hrm htd hx TD RF17 X17
            obtain ⟨N, hN⟩ : ∃ N : Nat, (cnt W H s).toNat = N := ⟨_, rfl⟩
            have HCN := hide (show cnt W H s = (N : Int) by have := HG.out.cnt; omega)
            have hN260 : N ≤ 260 := by have := (gates_fewO HG.out (by rw [HN.out]; exact hn260)).1; omega
            have HTB := hide (fun (w' : World) (x : Ext wB w') (k : Nat) (hk : k < N) => rdTable_yes (WAB.out.ext x) k (by rw [HCN.out]; omega))
            have HTL := hide (fun (k : Nat) (hk : k < N) => tabA_len (l := l) HG.out (id := (k : Int)) ⟨by omega, by rw [HCN.out]; omega⟩)
            have RBk := hide QAB.out.blk
            unfold refCells at RBk
            rw [hN] at RBk
            obtain ⟨qb, hqb⟩ : ∃ z, q.b = z := ⟨_, rfl⟩
            rw [hqb] at RBk ⊢
            have QBN := hide hqb
            clear hN hqb
            go_wp2_with fail
            clear y0 y1 y2 yz TDR
            go_loopw [22] (fun iv wr => ∃ k : Nat, k ≤ N ∧ iv = .int .i64 (k : Int) ∧ Ext wB wr) (fun iv _ => N - (intOf iv).toNat)
            case atStart => exact ⟨0, Nat.zero_le _, rfl, XR3.out⟩
            case round =>
             obtain ⟨k, hk, rfl, hx⟩ := hrel
             have XR4 := hide hx
             have RK := hide (RBk.out.ext hx)
             have b6 := RK.out.at 6 rfl
             have bz := RK.out.lt
             have zE := hx.size
             obtain ⟨wE, rfl⟩ : ∃ z, z = wr := ⟨_, rfl⟩
             clear hx XR3
             by_cases hlt : k < N
             ·have jk : (k : Int) < (N : Int) := by omega
              have HTLk := HTL.out k hlt
              have HTBk := hide (HTB.out wE XR4.out k hlt)
              obtain ⟨tA, htA⟩ : ∃ z, tabA W H s l (k : Int) = z := ⟨_, rfl⟩
              rw [htA] at HTLk HTBk
              have hk0 : ¬ (k : Int) < 0 := by omega
              clear htA
              go_wp2_with fail
              refine (HTBk.out).mono ?_
              rintro e w18 ⟨v1, v2, rfl, x18, oc1, or1⟩
              obtain ⟨a1, c1, rfl⟩ := oc1.slice
              obtain ⟨r1, d1, rfl, ru1⟩ := rowsU_of or1
              obtain ⟨cs0, hTR⟩ := tab_room oc1 or1 (fun r hr => by have := HTLk.2.2 r hr; omega)
              obtain ⟨u, hu⟩ : ∃ z, tA.1.length = z := ⟨_, rfl⟩
              obtain ⟨v5, hv5⟩ : ∃ z, tA.2.length = z := ⟨_, rfl⟩
              have hu256 : u ≤ 256 := by have := HTLk.1; omega
              have hv256 : v5 ≤ 256 := by have := HTLk.2.1; omega
              rw [hu, hv5] at hTR
              rw [hu, hv5]
              have TR18 := hide hTR
              have X18 := hide (XR4.out.trans x18)
              have z18 := x18.size
              clear oc1 or1 ru1 hTR hu hv5 HTLk x18 HTBk b6 bz RK
              go_upto_region 32 with (fail)
              obtain ⟨w19, hw19⟩ : ∃ z, z = w18.alloc (.cells #[.slice a1 u c1, .slice r1 v5 d1] 74) := ⟨_, rfl⟩
              have x19 : Ext w18 w19 := by rw [hw19]; exact (Ext.refl _).alloc _
              have UB := hide (show Blk w19 w18.heap.size 74 #[.slice a1 u c1, .slice r1 v5 d1] by rw [hw19]; exact Blk.new_ rfl)
              have X19 := hide (X18.out.trans x19)
              have TR19 := hide (TR18.out.ext x19)
              rw [← hw19]
              obtain ⟨ub, hub⟩ : ∃ z, w18.heap.size = z := ⟨_, rfl⟩
              rw [hub] at UB ⊢
              clear hw19 x19 X18 TR18 hub
              go_wp2_with fail
              go_loopw [25] (fun iv wx => ∃ i : Nat, i ≤ u ∧ i ≤ v5 ∧ iv = .int .i64 (i : Int) ∧ TabRm wx wE.heap.size a1 r1 u v5 cs0 ∧ Blk wx ub 74 #[.slice a1 u c1, .slice r1 v5 d1] ∧ Ext wB wx) (fun iv _ => u - (intOf iv).toNat)
              case atStart => exact ⟨0, Nat.zero_le _, Nat.zero_le _, rfl, TR19.out, UB.out, X19.out⟩
              case round =>
               obtain ⟨i, hi1, hi2, rfl, htr, hub, hx⟩ := hrel
               have UR := hide hub
               have XR5 := hide hx
               have y0 := UR.out.at 0 rfl; have y1 := UR.out.at 1 rfl; have yz := UR.out.lt
               by_cases hlt2 : i < u ∧ i < v5
               ·obtain ⟨hiu, hiv⟩ := hlt2
                have ju : (i : Int) < (u : Int) := by omega
                have jv : (i : Int) < (v5 : Int) := by omega
                obtain ⟨cb, e1, hcb, hrm⟩ := htr.cells (by omega)
                subst e1
                obtain ⟨o, ho⟩ := hrm.at (i := i * 2 + 1) (by omega)
                have hfz := hrm.frozen (i * 2 + 1)
                have hlz := hrm.lt
                have hubne := blk_ne hub hrm (by decide)
                have TQ := hide (htr.set hrm (by decide) (i * 2 + 1) (.int .i64 99))
                have UQ := hide (hub.far (p := ⟨cb, i * 2 + 1, none⟩) hubne (.int .i64 99))
                have XQ := hide (hx.setCell (p := ⟨cb, i * 2 + 1, none⟩) (show wB.heap.size ≤ cb by omega) (.int .i64 99))
                obtain ⟨rb, e2, hrb, _⟩ := htr.rows (by omega)
                subst e2
                obtain ⟨sa, mm, sc, hcs, hmm, _⟩ := htr.each i hiv
                have HCSi := hide hcs
                clear hrm htr hub hx hcs
                go_wp2_with fail
                go_loopw [26] (fun jv wy => ∃ j : Nat, j ≤ mm ∧ jv = .int .i64 (j : Int) ∧ TabRm wy wE.heap.size (some ⟨cb, 0, none⟩) (some ⟨rb, 0, none⟩) u v5 cs0 ∧ Blk wy ub 74 #[.slice (some ⟨cb, 0, none⟩) u c1, .slice (some ⟨rb, 0, none⟩) v5 d1] ∧ Ext wB wy) (fun jv _ => mm - (intOf jv).toNat)
                case atStart => exact ⟨0, Nat.zero_le _, rfl, TQ.out, UQ.out, XQ.out⟩
                case round =>
                 obtain ⟨j, hj, rfl, htr, hub, hx⟩ := hrel
                 have UR2 := hide hub
                 have XR6 := hide hx
                 have TR6 := hide htr
                 obtain ⟨rb', e3, hrb', hbl⟩ := htr.rows (by omega)
                 obtain rfl : rb = rb' := by injection e3 with e3; injection e3
                 have ec := hbl.at i HCSi.out
                 have ez := hbl.lt
                 clear y0 y1 yz ho hfz hlz o
                 have y0 := UR2.out.at 0 rfl; have y1 := UR2.out.at 1 rfl; have yz := UR2.out.lt
                 by_cases hlj : j < mm
                 ·obtain ⟨gb, e4, hgb, hrm⟩ := htr.row_at hiv HCSi.out (by omega)
                  subst e4
                  obtain ⟨o, ho⟩ := hrm.at hlj
                  have hfz := hrm.frozen j
                  have hlz := hrm.lt
                  have jj : (j : Int) < (mm : Int) := by omega
                  have TQ2 := hide (htr.set hrm (by decide) j (.int .u64 99))
                  have UQ2 := hide (hub.far (p := ⟨gb, j, none⟩) (blk_ne hub hrm (by decide)) (.int .u64 99))
                  have XQ2 := hide (hx.setCell (p := ⟨gb, j, none⟩) (show wB.heap.size ≤ gb by omega) (.int .u64 99))
                  clear hrm htr hub hx hbl
                  go_wp2_with fail
                  go_roundw
                  case rel => exact ⟨j + 1, by omega, by go_num, TQ2.out, UQ2.out, XQ2.out⟩
                  case measure => simp [intOf]; omega
                 ·obtain rfl : mm = j := by omega
                  clear htr hub hx hbl
                  go_wp2_with fail
                  go_roundw
                  case rel => exact ⟨i + 1, by omega, by omega, by go_num, TR6.out, UR2.out, XR6.out⟩
                  case measure => simp [intOf]; omega
               ·clear htr hub hx
                by_cases hiu : i < u
                ·have hiv : ¬ (i : Int) < (v5 : Int) := by omega
                 have ju : (i : Int) < (u : Int) := by omega
                 go_wp2_with fail
                 go_roundw
                 case rel => exact ⟨k + 1, by omega, by go_num, XR5.out⟩
                 case measure => simp [intOf]; omega
                ·have ju : ¬ (i : Int) < (u : Int) := by omega
                 go_wp2_with fail
                 go_roundw
                 case rel => exact ⟨k + 1, by omega, by go_num, XR5.out⟩
                 case measure => simp [intOf]; omega
             ·as_aux_lemma =>
               obtain rfl : N = k := by omega
               rw [← QBN.out] at b6 bz ⊢
               have HIS : Hid (∀ (w' : World), WorldAt w' p R W H s l → RefAt w' q (fun k => (w12.heap.size ≤ k ∧ k < w13.heap.size) ∨ ∃ o, a = some ⟨k, o, none⟩) W H s l → Calls Tryz.prog 18 #[.pointer (some ⟨p.b, 0, none⟩), .pointer (some ⟨q.b, 0, none⟩)] w' fun e w'' => e = .returned (.bool true) ∧ Ext w' w'') := hide (fun w' h1 h2 => is14_yes h1 h2 (HGS.out _ HG.out (by rw [HN.out]; exact hn260)))
               have WAE := hide (WAB.out.ext XR4.out)
               have QAE := hide (RefS.ext QAB.out XR4.out)
               have WCE := hide (WCB.out.ext XR4.out)
               have FE := hide (FB.out.ext XR4.out)
               have QE := hide (QB.out.ext XR4.out)
               have XE := hide (XB.out.trans XR4.out)
               clear HTB HTL RBk RK WAB QAB WCB FB QB XB HGa HFd
               go_wp2_with fail
               refine (HIS.out _ WAE.out QAE.out).mono ?_
               clear b6 bz
               rintro e w20 ⟨rfl, x20⟩
               have WA20 := hide (WAE.out.ext x20)
               have QA20 := hide (RefS.ext QAE.out x20)
               have WC20 := hide (WCE.out.ext x20)
               have F20 := hide (FE.out.ext x20)
               have Q20 := hide (QE.out.ext x20)
               have X20 := hide (XE.out.trans x20)
               have z20 := x20.size
               have HUP := upd_x WC20.out (W' := W2) (H' := H2) xc (HR2.out.ext X20.out) HU2.out cc (HCS.out.ext X20.out) (by rw [LM.out]; omega) (fun h1 h2 h3 => HGS.out xl ⟨by rw [← h2, ← h3]; exact h1, HG.out.right, HU2.out⟩ (by rw [HN2.out]; exact hn2260))
               rw [HN2.out, LM.out] at HUP
               have HUP := hide HUP
               have HWR : Hid (∀ (w' : World), Ext w w' → RefAt w' q (fun k => (w12.heap.size ≤ k ∧ k < w13.heap.size) ∨ ∃ o, a = some ⟨k, o, none⟩) W H s l → Calls Tryz.prog 26 #[.pointer (some ⟨q.b, 0, none⟩), .agg #[.int .i64 W2, .int .i64 H2, .slice xa n2 xc], .slice ca m cc] w' fun e w'' => e = .returned (.int .i64 (updE W H l W2 H2 xl cs)) ∧ Ext w' w'') := hide (fun w' x h2 => by
                have h := wrong_x h2 W2 H2 xc (HR2.out.ext x) cc (HCS.out.ext x) (by rw [LM.out]; omega)
                rw [HN2.out, LM.out] at h
                exact h)
               have HIN := hide (fun (x y : Int) (w' : World) => r10In_k W H x y w' (checkE_ok.1 HG.out.ok).1)
               have HQB : Hid (∀ (w' : World), RefAt w' q (fun k => (w12.heap.size ≤ k ∧ k < w13.heap.size) ∨ ∃ o, a = some ⟨k, o, none⟩) W H s l → Blk w' q.b 56 (refCells q W H s l.length (cnt W H s).toNat)) := hide (fun w' h => RefS.blk h)
               clear x20 WAE QAE WCE FE QE XE
               have u0 := Q20.out.at 0 rfl; have u1 := Q20.out.at 1 rfl; have u2 := Q20.out.at 2 rfl; have u3 := Q20.out.at 3 rfl; have uz := Q20.out.lt
               go_wp2_with fail
               refine (HUP.out).mono ?_
               clear HUP u0 u1 u2 u3 uz
               rintro e w21 hup
               rcases hup with ⟨hne, rfl, x21⟩ | ⟨he0, ia, ik, ic, v9, V9, rfl, hw21, hb21, _, t21, hV9⟩
               ·as_aux_lemma =>
                 have WA21 := hide (WA20.out.ext x21)
                 have QA21 := hide (RefS.ext QA20.out x21)
                 have Q21 := hide (Q20.out.ext x21)
                 have X21 := hide (X20.out.trans x21)
                 have hnb : (updE W H l W2 H2 xl cs != 0) = true := by simpa using hne
                 have hnz : ¬ updE W H l W2 H2 xl cs = 0 := hne
                 generalize updE W H l W2 H2 xl cs = er at *
                 clear x21 hne WA20 QA20 WC20 F20 Q20 X20
                 have u0 := Q21.out.at 0 rfl; have u1 := Q21.out.at 1 rfl; have u2 := Q21.out.at 2 rfl; have u3 := Q21.out.at 3 rfl; have uz := Q21.out.lt
                 go_wp2_with fail
                 refine (HWR.out _ X21.out QA21.out).mono ?_
                 rintro e w22 ⟨rfl, x22⟩
                 have WA22 := hide (WA21.out.ext x22)
                 have QA22 := hide (RefS.ext QA21.out x22)
                 have Q22 := hide (Q21.out.ext x22)
                 have X22 := hide (X21.out.trans x22)
                 clear x22 u0 u1 u2 u3 uz WA21 QA21 Q21 X21
                 go_wp2_with fail
                 refine (HIS.out _ WA22.out QA22.out).mono ?_
                 rintro e w23 ⟨rfl, x23⟩
                 have QA23 := hide (RefS.ext QA22.out x23)
                 have Q23 := hide (Q22.out.ext x23)
                 have X23 := hide (X22.out.trans x23)
                 have RBQ := hide (HQB.out _ QA23.out)
                 unfold refCells at RBQ
                 clear x23 WA22 QA22 Q22 X22
                 go_wp2_with fail
                 go_loopw [28, 29] (fun ov iv wr => ∃ k : Nat, k ≤ m ∧ iv = .int .i64 (k : Int) ∧ ov = .int .i64 (((cs.take k).filter fun c => inB W H c.1 c.2).length : Nat) ∧ Ext w23 wr) (fun _ iv _ => m - (intOf iv).toNat)
                 case atStart => exact ⟨0, Nat.zero_le _, rfl, rfl, Ext.refl _⟩
                 case round =>
                  obtain ⟨k, hk, rfl, rfl, hx⟩ := hrel
                  have XR7 := hide hx
                  have QR7 := hide (Q23.out.ext hx)
                  have RR7 := hide (RBQ.out.ext hx)
                  have zr := hx.size
                  clear hx
                  have u0 := QR7.out.at 0 rfl; have u1 := QR7.out.at 1 rfl; have u2 := QR7.out.at 2 rfl; have u3 := QR7.out.at 3 rfl; have uz := QR7.out.lt
                  have b0 := RR7.out.at 0 rfl; have b1 := RR7.out.at 1 rfl; have bz := RR7.out.lt
                  by_cases hlt : k < m
                  ·have hkl : k < cs.length := by rw [LM.out]; exact hlt
                   obtain ⟨cb, co, rfl, hcb, hcc⟩ := HCS.out (by omega)
                   obtain ⟨q0, q1⟩ := hcc k hkl
                   have d0 := ((X23.out.trans XR7.out).cell (p := ⟨cb, co + k * 2, none⟩) hcb).trans q0
                   have d1 := ((X23.out.trans XR7.out).cell (p := ⟨cb, co + k * 2 + 1, none⟩) hcb).trans q1
                   have zw := X23.out.size
                   have hbw : cb < wr.heap.size := by omega
                   have HTK := hide (filt_snoc (p := fun c : Cell => inB W H c.1 c.2) hkl)
                   have hfl := filt_le (fun c : Cell => inB W H c.1 c.2) cs k
                   have jk : (k : Int) < (m : Int) := by omega
                   generalize cs[k] = pc at *
                   obtain ⟨px, py⟩ := pc
                   simp only at d0 d1 HTK
                   have HINp := hide (fun w' => HIN.out px py w')
                   generalize inB W H px py = ib at *
                   generalize ((cs.take k).filter fun c => inB W H c.1 c.2).length = fl at *
                   clear hcc hkl q0 q1
                   go_wp2_with fail
                   refine seqH_start (S := (fun W => (∀ b o, b < wr.heap.size → W.cell? ⟨b, o, none⟩ = wr.cell? ⟨b, o, none⟩) ∧ Ext wr W)) [(0, true), (1, true), (2, true), (3, true), (4, true), (5, true), (6, true), (7, true), (8, true), (9, true), (10, false)] (by kernel_rfl) (by kernel_rfl) (by kernel_rfl) (by decide) (fun _ _ d _ _ h => by cases d <;> exact h) (by first | with_reducible exact pr_start _ | exact pr_of (by (with_reducible (repeat' (first | exact z_r _ | assumption | refine z_d ?_ | refine z_n ?_ _ | refine z_a ?_ _ | refine z_s ?_ ?_ _ | refine z_t ?_ (by assumption)))); all_goals (simp <;> omega))) (fun hHeld => ?_)
                   iterate 10 (apply SeqH.free; (· (simp only [z_0, z_1, z_2]; rfl)); (· first | exact Or.inr ⟨by rfl, rfl⟩ | (refine Or.inl ⟨by rfl, ?_⟩; intro w hSw; (try dsimp only at hSw); go_simp; try with_reducible rfl)); try simp only [Act.put, z_3, z_4, z_5])
                   (apply SeqH.step; (· (simp only [z_0, z_1, z_2]; rfl)); intro K hK; go_simp; refine (HINp.out _).mono ?_; rintro e w24 ⟨rfl, hb24⟩; go_wp2_with fail; refine hK.out _ _ (pr_of (by (with_reducible (repeat' (first | exact z_r _ | assumption | refine z_d ?_ | refine z_n ?_ _ | refine z_a ?_ _ | refine z_s ?_ ?_ _ | refine z_t ?_ (by assumption)))); all_goals (simp <;> omega))) (fun hHeld => ?_); clear hK K; try simp only [Act.put, z_3, z_4, z_5])
                   refine SeqH.done ?_
                   have XF := hide hHeld.2
                   clear hHeld
                   cases ib
                   ·go_wp2_with fail
                    go_roundw
                    case rel => exact ⟨k + 1, by omega, by go_num, by rw [HTK.out]; simp, XR7.out.trans XF.out⟩
                    case measure => simp [intOf]; omega
                   ·go_wp2_with fail
                    go_roundw
                    case rel => exact ⟨k + 1, by omega, by go_num, by rw [HTK.out]; go_num, XR7.out.trans XF.out⟩
                    case measure => simp [intOf]; omega
                  ·obtain rfl : m = k := by omega
                   generalize ((cs.take m).filter fun c => inB W H c.1 c.2).length = fl at *
                   go_wp2_with fail
                   refine (done.out _ (X23.out.trans XR7.out)).mono ?_
                   rintro e w25 ⟨rfl, x25⟩
                   go_wp2_with fail
                   go_ret
                   exact ⟨rfl, x25⟩
               ·as_aux_lemma =>
                 have WA21 := hide (WA20.out.touch t21 (fun k hk h => by have h1 := PF.out k hk; have h2 := VF.out k h; omega) (fun k hk h => by have h1 := PR.out k hk; have h2 := VF.out k h; omega))
                 have QA21 := hide (RefS.touch QA20.out t21 (fun k hk h => by have h1 := (QR.out k hk).2; have h2 := VF.out k h; omega))
                 have Q21 := hide (Q20.out.touch t21 (fun h => by have h2 := VF.out _ h; omega))
                 have X21 := hide (X20.out.of_below (t21.to_below X20.out.size (fun k h => by have h2 := VF.out _ h; omega)) (Nat.le_refl _))
                 have WC21 := hide hw21
                 have VB := hide hb21
                 have HZ := hide (updE_zero he0)
                 rw [he0] at HWR
                 have HINall := hide (updE_zero he0).2.2.2
                 obtain ⟨e1, e2⟩ : W2 = W ∧ H2 = H := ⟨HZ.out.2.1, HZ.out.2.2.1⟩
                 subst e1 e2
                 have GX := hide (show Good W2 H2 s xl from ⟨HZ.out.1, HG.out.right, HU2.out⟩)
                 clear hw21 hb21 t21 hV9 he0 WA20 QA20 WC20 F20 Q20 X20 HZ
                 have u0 := Q21.out.at 0 rfl; have u1 := Q21.out.at 1 rfl; have u2 := Q21.out.at 2 rfl; have u3 := Q21.out.at 3 rfl; have uz := Q21.out.lt
                 go_wp2_with fail
                 refine (HWR.out _ X21.out QA21.out).mono ?_
                 rintro e w22 ⟨rfl, x22⟩
                 have WA22 := hide (WA21.out.ext x22)
                 have QA22 := hide (RefS.ext QA21.out x22)
                 have Q22 := hide (Q21.out.ext x22)
                 have X22 := hide (X21.out.trans x22)
                 have WC22 := hide (WC21.out.ext x22)
                 clear x22 u0 u1 u2 u3 uz WA21 QA21 Q21 X21
                 go_wp2_with fail
                 refine (HIS.out _ WA22.out QA22.out).mono ?_
                 rintro e w23 ⟨rfl, x23⟩
                 have QA23 := hide (RefS.ext QA22.out x23)
                 have Q23 := hide (Q22.out.ext x23)
                 have X23 := hide (X22.out.trans x23)
                 have WC23 := hide (WC22.out.ext x23)
                 have RBQ := hide (HQB.out _ QA23.out)
                 unfold refCells at RBQ
                 clear x23 WA22 QA22 Q22 X22
                 go_wp2_with fail
                 go_loopw [28, 29] (fun ov iv wr => ∃ k : Nat, k ≤ m ∧ iv = .int .i64 (k : Int) ∧ ov = .int .i64 (((cs.take k).filter fun c => inB W2 H2 c.1 c.2).length : Nat) ∧ Ext w23 wr) (fun _ iv _ => m - (intOf iv).toNat)
                 case atStart => exact ⟨0, Nat.zero_le _, rfl, rfl, Ext.refl _⟩
                 case round =>
                  obtain ⟨k, hk, rfl, rfl, hx⟩ := hrel
                  have XR7 := hide hx
                  have QR7 := hide (Q23.out.ext hx)
                  have RR7 := hide (RBQ.out.ext hx)
                  have zr := hx.size
                  clear hx
                  have u0 := QR7.out.at 0 rfl; have u1 := QR7.out.at 1 rfl; have u2 := QR7.out.at 2 rfl; have u3 := QR7.out.at 3 rfl; have uz := QR7.out.lt
                  have b0 := RR7.out.at 0 rfl; have b1 := RR7.out.at 1 rfl; have bz := RR7.out.lt
                  by_cases hlt : k < m
                  ·have hkl : k < cs.length := by rw [LM.out]; exact hlt
                   obtain ⟨cb, co, rfl, hcb, hcc⟩ := HCS.out (by omega)
                   obtain ⟨q0, q1⟩ := hcc k hkl
                   have d0 := ((X23.out.trans XR7.out).cell (p := ⟨cb, co + k * 2, none⟩) hcb).trans q0
                   have d1 := ((X23.out.trans XR7.out).cell (p := ⟨cb, co + k * 2 + 1, none⟩) hcb).trans q1
                   have zw := X23.out.size
                   have hbw : cb < wr.heap.size := by omega
                   have HTK := hide (filt_snoc (p := fun c : Cell => inB W2 H2 c.1 c.2) hkl)
                   have hfl := filt_le (fun c : Cell => inB W2 H2 c.1 c.2) cs k
                   have jk : (k : Int) < (m : Int) := by omega
                   generalize cs[k] = pc at *
                   obtain ⟨px, py⟩ := pc
                   simp only at d0 d1 HTK
                   have HINp := hide (fun w' => HIN.out px py w')
                   generalize inB W2 H2 px py = ib at *
                   generalize ((cs.take k).filter fun c => inB W2 H2 c.1 c.2).length = fl at *
                   clear hcc hkl q0 q1
                   go_wp2_with fail
                   refine seqH_start (S := (fun W => (∀ b o, b < wr.heap.size → W.cell? ⟨b, o, none⟩ = wr.cell? ⟨b, o, none⟩) ∧ Ext wr W)) [(0, true), (1, true), (2, true), (3, true), (4, true), (5, true), (6, true), (7, true), (8, true), (9, true), (10, false)] (by kernel_rfl) (by kernel_rfl) (by kernel_rfl) (by decide) (fun _ _ d _ _ h => by cases d <;> exact h) (by first | with_reducible exact pr_start _ | exact pr_of (by (with_reducible (repeat' (first | exact z_r _ | assumption | refine z_d ?_ | refine z_n ?_ _ | refine z_a ?_ _ | refine z_s ?_ ?_ _ | refine z_t ?_ (by assumption)))); all_goals (simp <;> omega))) (fun hHeld => ?_)
                   iterate 10 (apply SeqH.free; (· (simp only [z_0, z_1, z_2]; rfl)); (· first | exact Or.inr ⟨by rfl, rfl⟩ | (refine Or.inl ⟨by rfl, ?_⟩; intro w hSw; (try dsimp only at hSw); go_simp; try with_reducible rfl)); try simp only [Act.put, z_3, z_4, z_5])
                   (apply SeqH.step; (· (simp only [z_0, z_1, z_2]; rfl)); intro K hK; go_simp; refine (HINp.out _).mono ?_; rintro e w24 ⟨rfl, hb24⟩; go_wp2_with fail; refine hK.out _ _ (pr_of (by (with_reducible (repeat' (first | exact z_r _ | assumption | refine z_d ?_ | refine z_n ?_ _ | refine z_a ?_ _ | refine z_s ?_ ?_ _ | refine z_t ?_ (by assumption)))); all_goals (simp <;> omega))) (fun hHeld => ?_); clear hK K; try simp only [Act.put, z_3, z_4, z_5])
                   refine SeqH.done ?_
                   have XF := hide hHeld.2
                   clear hHeld
                   cases ib
                   ·go_wp2_with fail
                    go_roundw
                    case rel => exact ⟨k + 1, by omega, by go_num, by rw [HTK.out]; simp, XR7.out.trans XF.out⟩
                    case measure => simp [intOf]; omega
                   ·go_wp2_with fail
                    go_roundw
                    case rel => exact ⟨k + 1, by omega, by go_num, by rw [HTK.out]; go_num, XR7.out.trans XF.out⟩
                    case measure => simp [intOf]; omega
                  ·obtain rfl : m = k := by omega
                   have HTK : Hid (((cs.take m).filter fun c => inB W2 H2 c.1 c.2).length = m) := hide (by
                    rw [List.take_of_length_le (by rw [LM.out]; exact Nat.le_refl _), filt_all HINall.out]
                    exact LM.out)
                   rw [HTK.out]
                   have HNR := r14New_any (w := wr) xc GX.out (HR2.out.ext (X23.out.trans XR7.out)) (HGS.out _ GX.out (by rw [HN2.out]; exact hn2260))
                   rw [HN2.out] at HNR
                   have HNR := hide HNR
                   have WC24 := hide (WC23.out.ext XR7.out)
                   go_wp2_with fail
                   refine (HNR.out).mono ?_
                   rintro e w25 ⟨q2, rfl, x25, hq2, _, _, _⟩
                   have HIC : Hid (Calls Tryz.prog 18 #[.pointer (some ⟨v.b, 0, none⟩), .pointer (some ⟨q2.b, 0, none⟩)] w25 fun e w'' => e = .returned (.bool true) ∧ Ext w25 w'') := hide (by
                    have h := is14_yes (WC24.out.ext x25) hq2 (HGS.out _ GX.out (by rw [HN2.out]; exact hn2260))
                    rw [VB.out] at h
                    exact h)
                   have X25 := hide ((X23.out.trans XR7.out).trans x25)
                   clear hq2 x25
                   go_wp2_with fail
                   refine (HIC.out).mono ?_
                   rintro e w26 ⟨rfl, x26⟩
                   go_wp2_with fail
                   refine (done.out _ (X25.out.trans x26)).mono ?_
                   rintro e w27 ⟨rfl, x27⟩
                   go_wp2_with fail
                   go_ret
                   exact ⟨rfl, x27⟩
  case first =>
   refine seqT_start (S := (fun W => (∀ b o, b < wn.heap.size → W.cell? ⟨b, o, none⟩ = wn.cell? ⟨b, o, none⟩) ∧ Ext wn W)) (.take 0 (.take 1 (.take 3 (.take 4 (.step 2 (.step 5 (.take 6 (.step 7 (.step 8 .done .shut) .shut)) (.step 7 (.step 5 (.take 6 (.step 8 .done .shut)) .shut) .shut)) (.step 7 (.step 2 (.step 5 (.take 6 (.step 8 .done .shut)) .shut) .shut) .shut)))))) (by kernel_rfl) (by kernel_rfl) (by kernel_rfl) (by decide) (fun _ _ d _ _ h => by cases d <;> exact h) (by first | with_reducible exact pr_start _ | exact pr_of (by (with_reducible (repeat' (first | exact z_r _ | assumption | refine z_d ?_ | refine z_n ?_ _ | refine z_a ?_ _ | refine z_s ?_ ?_ _ | refine z_t ?_ (by assumption)))); all_goals (simp <;> omega))) (fun hHeld => ?_)
   iterate 4 (apply SeqT.free; (· (simp only [z_0, z_1, z_2]; rfl)); (· first | exact Or.inr ⟨by rfl, rfl⟩ | (refine Or.inl ⟨by rfl, ?_⟩; intro w hSw; (try dsimp only at hSw); go_simp; try with_reducible rfl)); try simp only [Act.put, z_3, z_4, z_5])
   (apply SeqT.step; (· (simp only [z_0, z_1, z_2]; rfl)))
   (intro K hK; go_simp; refine hK.out _ _ (pr_of (by (with_reducible (repeat' (first | exact z_r _ | assumption | refine z_d ?_ | refine z_n ?_ _ | refine z_a ?_ _ | refine z_s ?_ ?_ _ | refine z_t ?_ (by assumption)))); all_goals (simp <;> omega))) (fun hHeld => ?_); clear hK K; (try simp only [Act.put, z_3, z_4, z_5]); (first | refine SeqT.named ?_ (by assumption) | refine SeqT.namedD ?_ (by assumption)); intro wl dl hxl hzl hSl; have L0 := hide (own_empty u16G dl (show wn.heap.size ≤ _ from (show Ext wn _ from (by (with_reducible (repeat' (first | exact z_r _ | assumption | refine z_d ?_ | refine z_n ?_ _ | refine z_a ?_ _ | refine z_s ?_ ?_ _ | refine z_t ?_ (by assumption)))); all_goals (simp <;> omega))).size)); clear dl hzl; (try replace DT := hide (DT.out.ext hxl)))
   (apply SeqT.step; (· (simp only [z_0, z_1, z_2]; rfl)))
   (intro K hK; refine step_app_rows u16G T_u16G (by rfl) _ _ (by rfl) wn.heap.size _ [] l (by rfl) L0.out _ (by rfl) (HRd.out _ (XN.out.trans (by (with_reducible (repeat' (first | exact z_r _ | assumption | refine z_d ?_ | refine z_n ?_ _ | refine z_a ?_ _ | refine z_s ?_ ?_ _ | refine z_t ?_ (by assumption)))); all_goals (simp <;> omega)))) (by rw [HN.out]; simp; omega) (by rw [HN.out]; simp; omega) (show Ext wn _ from (by (with_reducible (repeat' (first | exact z_r _ | assumption | refine z_d ?_ | refine z_n ?_ _ | refine z_a ?_ _ | refine z_s ?_ ?_ _ | refine z_t ?_ (by assumption)))); all_goals (simp <;> omega))).size ?_; intro v9 w9 o9 t9 l9; obtain ⟨a9, c9, rfl⟩ := o9.slice; rw [show ([] ++ l : List Int).length = n from HN.out] at o9 ⊢; have hx9 : Ext wn w9 := (show Ext wn _ from (by (with_reducible (repeat' (first | exact z_r _ | assumption | refine z_d ?_ | refine z_n ?_ _ | refine z_a ?_ _ | refine z_s ?_ ?_ _ | refine z_t ?_ (by assumption)))); all_goals (simp <;> omega))).of_below (t9.to_below (B := wn.heap.size) (show Ext wn _ from (by (with_reducible (repeat' (first | exact z_r _ | assumption | refine z_d ?_ | refine z_n ?_ _ | refine z_a ?_ _ | refine z_s ?_ ?_ _ | refine z_t ?_ (by assumption)))); all_goals (simp <;> omega))).size (fun q hq => (own_lt L0.out hq).1)) (Nat.le_refl _); have G0 := hide o9; (try replace DT := hide (DT.out.touch t9 (fun h => Blk.ne_own DT.out L0.out (by decide) h))); (try replace t0 := DT.out.at 0 rfl); (try replace t1 := DT.out.at 1 rfl); (try replace t2 := DT.out.at 2 rfl); (try replace tf0 := DT.out.frozen 0); (try replace tf1 := DT.out.frozen 1); (try replace tf2 := DT.out.frozen 2); (try replace tz := DT.out.lt); clear o9; refine hK.out _ _ (pr_of (by (with_reducible (repeat' (first | exact z_r _ | assumption | refine z_d ?_ | refine z_n ?_ _ | refine z_a ?_ _ | refine z_s ?_ ?_ _ | refine z_t ?_ (by assumption)))); all_goals (simp <;> omega))) (fun hHeld => ?_); clear hK K; (try simp only [Act.put, z_3, z_4, z_5]))
   iterate 1 (apply SeqT.free; (· (simp only [z_0, z_1, z_2]; rfl)); (· first | exact Or.inr ⟨by rfl, rfl⟩ | (refine Or.inl ⟨by rfl, ?_⟩; intro w hSw; (try dsimp only at hSw); go_simp; try with_reducible rfl)); try simp only [Act.put, z_3, z_4, z_5])
   (apply SeqT.last; (· (simp only [z_0, z_1, z_2]; rfl)))
   (intro K hK; go_simp; refine hK.out _ _ (pr_of (by (with_reducible (repeat' (first | exact z_r _ | assumption | refine z_d ?_ | refine z_n ?_ _ | refine z_a ?_ _ | refine z_s ?_ ?_ _ | refine z_t ?_ (by assumption)))); all_goals (simp <;> omega))) (fun hHeld => ?_); clear hK K; (try simp only [Act.put, z_3, z_4, z_5]); (first | refine SeqT.named ?_ (by assumption) | refine SeqT.namedD ?_ (by assumption)); intro wt dt hxt hzt hSt; have DT := hide dt; have zt3 := blk_ge DT (show wn.heap.size ≤ _ from (show Ext wn _ from (by (with_reducible (repeat' (first | exact z_r _ | assumption | refine z_d ?_ | refine z_n ?_ _ | refine z_a ?_ _ | refine z_s ?_ ?_ _ | refine z_t ?_ (by assumption)))); all_goals (simp <;> omega))).size); clear dt hzt; (try replace L0 := hide (L0.out.ext hxt)); (try replace G0 := hide (G0.out.ext hxt)); have t0 := DT.out.at 0 rfl; have t1 := DT.out.at 1 rfl; have t2 := DT.out.at 2 rfl; have tf0 := DT.out.frozen 0; have tf1 := DT.out.frozen 1; have tf2 := DT.out.frozen 2; have tz := DT.out.lt)
   (apply SeqT.last; (· (simp only [z_0, z_1, z_2]; rfl)))
   (intro K hK; go_simp; refine hK.out _ _ (pr_of (by (with_reducible (repeat' (first | exact z_r _ | assumption | refine z_d ?_ | refine z_n ?_ _ | refine z_a ?_ _ | refine z_s ?_ ?_ _ | refine z_t ?_ (by assumption)))); all_goals (simp <;> omega))) (fun hHeld => ?_); clear hK K; (try simp only [Act.put, z_3, z_4, z_5]); refine SeqT.namedExt hHeld.2 ?_; intro wq hwq xq; have XQ := hide xq; have DQ := hide (show Blk wq _ 26 #[.int .i64 W, .int .i64 H, .slice a9 n c9] from hwq ▸ (((DT.out.set_ 0 (.int .i64 W)).set_ 1 (.int .i64 H)).set_ 2 (.slice a9 n c9))); have GQ := hide (show Own u16G wq wn.heap.size 83 (.slice a9 n c9) l from hwq ▸ Own.touch G0.out (touch3 _ _ _ _ _) (fun q hq e => Blk.ne_own DT.out G0.out (by decide) (by rw [← e]; exact hq))); clear hwq hHeld xq t0 t1 t2 tf0 tf1 tf2 tz DT G0 L0)
   refine SeqT.fin ?_
   rotate_left
   (apply SeqT.last; (· (simp only [z_0, z_1, z_2]; rfl)))
   (intro K hK; go_simp; refine hK.out _ _ (pr_of (by (with_reducible (repeat' (first | exact z_r _ | assumption | refine z_d ?_ | refine z_n ?_ _ | refine z_a ?_ _ | refine z_s ?_ ?_ _ | refine z_t ?_ (by assumption)))); all_goals (simp <;> omega))) (fun hHeld => ?_); clear hK K; (try simp only [Act.put, z_3, z_4, z_5]); (first | refine SeqT.named ?_ (by assumption) | refine SeqT.namedD ?_ (by assumption)); intro wt dt hxt hzt hSt; have DT := hide dt; have zt3 := blk_ge DT (show wn.heap.size ≤ _ from (show Ext wn _ from (by (with_reducible (repeat' (first | exact z_r _ | assumption | refine z_d ?_ | refine z_n ?_ _ | refine z_a ?_ _ | refine z_s ?_ ?_ _ | refine z_t ?_ (by assumption)))); all_goals (simp <;> omega))).size); clear dt hzt; (try replace L0 := hide (L0.out.ext hxt)); (try replace G0 := hide (G0.out.ext hxt)); have t0 := DT.out.at 0 rfl; have t1 := DT.out.at 1 rfl; have t2 := DT.out.at 2 rfl; have tf0 := DT.out.frozen 0; have tf1 := DT.out.frozen 1; have tf2 := DT.out.frozen 2; have tz := DT.out.lt)
   (apply SeqT.last; (· (simp only [z_0, z_1, z_2]; rfl)))
   (intro K hK; refine step_app_rows u16G T_u16G (by rfl) _ _ (by rfl) wn.heap.size _ [] l (by rfl) L0.out _ (by rfl) (HRd.out _ (XN.out.trans (by (with_reducible (repeat' (first | exact z_r _ | assumption | refine z_d ?_ | refine z_n ?_ _ | refine z_a ?_ _ | refine z_s ?_ ?_ _ | refine z_t ?_ (by assumption)))); all_goals (simp <;> omega)))) (by rw [HN.out]; simp; omega) (by rw [HN.out]; simp; omega) (show Ext wn _ from (by (with_reducible (repeat' (first | exact z_r _ | assumption | refine z_d ?_ | refine z_n ?_ _ | refine z_a ?_ _ | refine z_s ?_ ?_ _ | refine z_t ?_ (by assumption)))); all_goals (simp <;> omega))).size ?_; intro v9 w9 o9 t9 l9; obtain ⟨a9, c9, rfl⟩ := o9.slice; rw [show ([] ++ l : List Int).length = n from HN.out] at o9 ⊢; have hx9 : Ext wn w9 := (show Ext wn _ from (by (with_reducible (repeat' (first | exact z_r _ | assumption | refine z_d ?_ | refine z_n ?_ _ | refine z_a ?_ _ | refine z_s ?_ ?_ _ | refine z_t ?_ (by assumption)))); all_goals (simp <;> omega))).of_below (t9.to_below (B := wn.heap.size) (show Ext wn _ from (by (with_reducible (repeat' (first | exact z_r _ | assumption | refine z_d ?_ | refine z_n ?_ _ | refine z_a ?_ _ | refine z_s ?_ ?_ _ | refine z_t ?_ (by assumption)))); all_goals (simp <;> omega))).size (fun q hq => (own_lt L0.out hq).1)) (Nat.le_refl _); have G0 := hide o9; (try replace DT := hide (DT.out.touch t9 (fun h => Blk.ne_own DT.out L0.out (by decide) h))); (try replace t0 := DT.out.at 0 rfl); (try replace t1 := DT.out.at 1 rfl); (try replace t2 := DT.out.at 2 rfl); (try replace tf0 := DT.out.frozen 0); (try replace tf1 := DT.out.frozen 1); (try replace tf2 := DT.out.frozen 2); (try replace tz := DT.out.lt); clear o9; refine hK.out _ _ (pr_of (by (with_reducible (repeat' (first | exact z_r _ | assumption | refine z_d ?_ | refine z_n ?_ _ | refine z_a ?_ _ | refine z_s ?_ ?_ _ | refine z_t ?_ (by assumption)))); all_goals (simp <;> omega))) (fun hHeld => ?_); clear hK K; (try simp only [Act.put, z_3, z_4, z_5]))
   iterate 1 (apply SeqT.free; (· (simp only [z_0, z_1, z_2]; rfl)); (· first | exact Or.inr ⟨by rfl, rfl⟩ | (refine Or.inl ⟨by rfl, ?_⟩; intro w hSw; (try dsimp only at hSw); go_simp; try with_reducible rfl)); try simp only [Act.put, z_3, z_4, z_5])
   (apply SeqT.last; (· (simp only [z_0, z_1, z_2]; rfl)))
   (intro K hK; go_simp; refine hK.out _ _ (pr_of (by (with_reducible (repeat' (first | exact z_r _ | assumption | refine z_d ?_ | refine z_n ?_ _ | refine z_a ?_ _ | refine z_s ?_ ?_ _ | refine z_t ?_ (by assumption)))); all_goals (simp <;> omega))) (fun hHeld => ?_); clear hK K; (try simp only [Act.put, z_3, z_4, z_5]); refine SeqT.namedExt hHeld.2 ?_; intro wq hwq xq; have XQ := hide xq; have DQ := hide (show Blk wq _ 26 #[.int .i64 W, .int .i64 H, .slice a9 n c9] from hwq ▸ (((DT.out.set_ 0 (.int .i64 W)).set_ 1 (.int .i64 H)).set_ 2 (.slice a9 n c9))); have GQ := hide (show Own u16G wq wn.heap.size 83 (.slice a9 n c9) l from hwq ▸ Own.touch G0.out (touch3 _ _ _ _ _) (fun q hq e => Blk.ne_own DT.out G0.out (by decide) (by rw [← e]; exact hq))); clear hwq hHeld xq t0 t1 t2 tf0 tf1 tf2 tz DT G0 L0)
   refine SeqT.fin ?_
   rotate_left
   (apply SeqT.last; (· (simp only [z_0, z_1, z_2]; rfl)))
   (intro K hK; go_simp; refine hK.out _ _ (pr_of (by (with_reducible (repeat' (first | exact z_r _ | assumption | refine z_d ?_ | refine z_n ?_ _ | refine z_a ?_ _ | refine z_s ?_ ?_ _ | refine z_t ?_ (by assumption)))); all_goals (simp <;> omega))) (fun hHeld => ?_); clear hK K; (try simp only [Act.put, z_3, z_4, z_5]); (first | refine SeqT.named ?_ (by assumption) | refine SeqT.namedD ?_ (by assumption)); intro wt dt hxt hzt hSt; have DT := hide dt; have zt3 := blk_ge DT (show wn.heap.size ≤ _ from (show Ext wn _ from (by (with_reducible (repeat' (first | exact z_r _ | assumption | refine z_d ?_ | refine z_n ?_ _ | refine z_a ?_ _ | refine z_s ?_ ?_ _ | refine z_t ?_ (by assumption)))); all_goals (simp <;> omega))).size); clear dt hzt; (try replace L0 := hide (L0.out.ext hxt)); (try replace G0 := hide (G0.out.ext hxt)); have t0 := DT.out.at 0 rfl; have t1 := DT.out.at 1 rfl; have t2 := DT.out.at 2 rfl; have tf0 := DT.out.frozen 0; have tf1 := DT.out.frozen 1; have tf2 := DT.out.frozen 2; have tz := DT.out.lt)
   (apply SeqT.last; (· (simp only [z_0, z_1, z_2]; rfl)))
   (intro K hK; go_simp; refine hK.out _ _ (pr_of (by (with_reducible (repeat' (first | exact z_r _ | assumption | refine z_d ?_ | refine z_n ?_ _ | refine z_a ?_ _ | refine z_s ?_ ?_ _ | refine z_t ?_ (by assumption)))); all_goals (simp <;> omega))) (fun hHeld => ?_); clear hK K; (try simp only [Act.put, z_3, z_4, z_5]); (first | refine SeqT.named ?_ (by assumption) | refine SeqT.namedD ?_ (by assumption)); intro wl dl hxl hzl hSl; have L0 := hide (own_empty u16G dl (show wn.heap.size ≤ _ from (show Ext wn _ from (by (with_reducible (repeat' (first | exact z_r _ | assumption | refine z_d ?_ | refine z_n ?_ _ | refine z_a ?_ _ | refine z_s ?_ ?_ _ | refine z_t ?_ (by assumption)))); all_goals (simp <;> omega))).size)); clear dl hzl; (try replace DT := hide (DT.out.ext hxl)))
   (apply SeqT.last; (· (simp only [z_0, z_1, z_2]; rfl)))
   (intro K hK; refine step_app_rows u16G T_u16G (by rfl) _ _ (by rfl) wn.heap.size _ [] l (by rfl) L0.out _ (by rfl) (HRd.out _ (XN.out.trans (by (with_reducible (repeat' (first | exact z_r _ | assumption | refine z_d ?_ | refine z_n ?_ _ | refine z_a ?_ _ | refine z_s ?_ ?_ _ | refine z_t ?_ (by assumption)))); all_goals (simp <;> omega)))) (by rw [HN.out]; simp; omega) (by rw [HN.out]; simp; omega) (show Ext wn _ from (by (with_reducible (repeat' (first | exact z_r _ | assumption | refine z_d ?_ | refine z_n ?_ _ | refine z_a ?_ _ | refine z_s ?_ ?_ _ | refine z_t ?_ (by assumption)))); all_goals (simp <;> omega))).size ?_; intro v9 w9 o9 t9 l9; obtain ⟨a9, c9, rfl⟩ := o9.slice; rw [show ([] ++ l : List Int).length = n from HN.out] at o9 ⊢; have hx9 : Ext wn w9 := (show Ext wn _ from (by (with_reducible (repeat' (first | exact z_r _ | assumption | refine z_d ?_ | refine z_n ?_ _ | refine z_a ?_ _ | refine z_s ?_ ?_ _ | refine z_t ?_ (by assumption)))); all_goals (simp <;> omega))).of_below (t9.to_below (B := wn.heap.size) (show Ext wn _ from (by (with_reducible (repeat' (first | exact z_r _ | assumption | refine z_d ?_ | refine z_n ?_ _ | refine z_a ?_ _ | refine z_s ?_ ?_ _ | refine z_t ?_ (by assumption)))); all_goals (simp <;> omega))).size (fun q hq => (own_lt L0.out hq).1)) (Nat.le_refl _); have G0 := hide o9; (try replace DT := hide (DT.out.touch t9 (fun h => Blk.ne_own DT.out L0.out (by decide) h))); (try replace t0 := DT.out.at 0 rfl); (try replace t1 := DT.out.at 1 rfl); (try replace t2 := DT.out.at 2 rfl); (try replace tf0 := DT.out.frozen 0); (try replace tf1 := DT.out.frozen 1); (try replace tf2 := DT.out.frozen 2); (try replace tz := DT.out.lt); clear o9; refine hK.out _ _ (pr_of (by (with_reducible (repeat' (first | exact z_r _ | assumption | refine z_d ?_ | refine z_n ?_ _ | refine z_a ?_ _ | refine z_s ?_ ?_ _ | refine z_t ?_ (by assumption)))); all_goals (simp <;> omega))) (fun hHeld => ?_); clear hK K; (try simp only [Act.put, z_3, z_4, z_5]))
   iterate 1 (apply SeqT.free; (· (simp only [z_0, z_1, z_2]; rfl)); (· first | exact Or.inr ⟨by rfl, rfl⟩ | (refine Or.inl ⟨by rfl, ?_⟩; intro w hSw; (try dsimp only at hSw); go_simp; try with_reducible rfl)); try simp only [Act.put, z_3, z_4, z_5])
   (apply SeqT.last; (· (simp only [z_0, z_1, z_2]; rfl)))
   (intro K hK; go_simp; refine hK.out _ _ (pr_of (by (with_reducible (repeat' (first | exact z_r _ | assumption | refine z_d ?_ | refine z_n ?_ _ | refine z_a ?_ _ | refine z_s ?_ ?_ _ | refine z_t ?_ (by assumption)))); all_goals (simp <;> omega))) (fun hHeld => ?_); clear hK K; (try simp only [Act.put, z_3, z_4, z_5]); refine SeqT.namedExt hHeld.2 ?_; intro wq hwq xq; have XQ := hide xq; have DQ := hide (show Blk wq _ 26 #[.int .i64 W, .int .i64 H, .slice a9 n c9] from hwq ▸ (((DT.out.set_ 0 (.int .i64 W)).set_ 1 (.int .i64 H)).set_ 2 (.slice a9 n c9))); have GQ := hide (show Own u16G wq wn.heap.size 83 (.slice a9 n c9) l from hwq ▸ Own.touch G0.out (touch3 _ _ _ _ _) (fun q hq e => Blk.ne_own DT.out G0.out (by decide) (by rw [← e]; exact hq))); clear hwq hHeld xq t0 t1 t2 tf0 tf1 tf2 tz DT G0 L0)
   refine SeqT.fin ?_
   all_goals
    go_wp2_with fail
    go_meet
    case rel => exact ⟨_, _, _, rfl, DQ.out, GQ.out, zt3, XQ.out⟩
 ·generalize newE W H n s = er at *
  have hne : (er != 0) = true := by simpa using h4
  go_wp2_with fail
  refine (HM.out _).mono ?_
  rintro e w9 ⟨rfl, x9⟩
  go_wp2_with fail
  refine (done.out _ (X8.out.trans x9)).mono ?_
  rintro e w10 ⟨rfl, x10⟩
  go_wp2_with fail
  go_ret
  exact ⟨rfl, x10⟩
end Go.Proofs.YtkioohhjjdlhiaaGreat
