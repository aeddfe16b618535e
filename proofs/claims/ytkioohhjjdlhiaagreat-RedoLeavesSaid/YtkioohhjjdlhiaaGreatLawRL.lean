/- The walk of RedoLeaves. -/
import Derived.Test.YtkioohhjjdlhiaaGreatTurnP
import Derived.Test.YtkioohhjjdlhiaaGreatAwake14
import Derived.Test.YtkioohhjjdlhiaaGreatRedS
import Derived.Test.YtkioohhjjdlhiaaGreatRedT
set_option linter.all false
set_option linter.unusedVariables false
set_option linter.unusedSimpArgs false
namespace Go.Proofs.YtkioohhjjdlhiaaGreat
open Go.RowKit

/-- One turn, as a list. -/
theorem turns_one {w : World} {b : Nat} {ea : Option Addr} {E : List (Int × Int)} {hd : Bool} {ec : Nat} (B : Blk w b 44 #[.slice ea E.length ec, .bool hd]) (r : RowC w ea E) : TurnsAt w (some ⟨b, 0, none⟩) [(E, hd)] := fun _ => ⟨b, 0, rfl, B.lt, fun k hk => by
  obtain rfl : k = 0 := by simp at hk; omega
  exact ⟨ea, ec, B.at 0 rfl, B.at 1 rfl, r⟩⟩
theorem smallT_one {n : Nat} {E : List (Int × Int)} {hd : Bool} (h : smallT n [(E, hd)] = true) : n ≤ 260 ∧ E.length ≤ 20 := by
  obtain ⟨h1, _, h3⟩ := smallT_true h
  exact ⟨h1, h3 (E, hd) (List.mem_singleton.2 rfl)⟩
theorem small_one {w : World} (W H : Int) (a : Option Addr) (n c : Nat) {ea : Option Addr} {E : List (Int × Int)} {hd : Bool} {ec b : Nat} (B : Blk w b 44 #[.slice ea E.length ec, .bool hd]) (r : RowC w ea E) :
    Calls Tryz.prog 20 #[.agg #[.int .i64 W, .int .i64 H, .slice a n c], .slice (some ⟨b, 0, none⟩) 1 1] w fun e w' => e = .returned (.bool (smallT n [(E, hd)])) ∧ Ext w w' :=
  small14_any W H a n c (L := [(E, hd)]) 1 (turns_one B r) (by simp)

/-- What an update tells, plainly. -/
theorem toldU_at {W H s : Int} {l l' : List Int} {cs : List Cell} {N : Nat} {x : Int} (h : x ∈ toldU W H s l l' cs N) : 0 ≤ x ∧ x < (N : Int) := by
  unfold toldU at h
  obtain ⟨i, hi, rfl⟩ := List.mem_map.1 h
  have := List.mem_range.1 (List.mem_filter.1 hi).1
  omega
theorem toldU_rises (W H s : Int) (l l' : List Int) (cs : List Cell) (N : Nat) : (toldU W H s l l' cs N).Pairwise (· < ·) := by
  unfold toldU
  rw [List.pairwise_map]
  exact (List.Pairwise.filter _ List.pairwise_lt_range).imp (fun h => by omega)
theorem toldU_len (W H s : Int) (l l' : List Int) (cs : List Cell) (N : Nat) : (toldU W H s l l' cs N).length ≤ N := by
  unfold toldU
  rw [List.length_map]
  exact Nat.le_trans (List.length_filter_le _ _) (by rw [List.length_range]; exact Nat.le_refl _)
theorem toldU_kept {W H s : Int} {l l' : List Int} {cs : List Cell} {N i : Nat} (g : Good W H s l) (g' : Good W H s l') (hN : cnt W H s = (N : Int)) (hi : i < N) (hu : updE W H l W H l' cs = 0) (h : ¬ (i : Int) ∈ toldU W H s l l' cs N) : tabA W H s l (i : Int) = tabA W H s l' (i : Int) := by
  have hok := g'.ok
  by_cases hin : cs.all (fun c => inB W H c.1 c.2) = true
  · by_cases hk : keptB W l l' cs = true
    · have h0 : ¬ (((cs.any fun c => idC W s c == i) || !(decide (celA W H s l' (i : Int) = celA W H s l (i : Int)))) = true) := fun hb => h (List.mem_map.2 ⟨i, List.mem_filter.2 ⟨List.mem_range.2 hi, hb⟩, rfl⟩)
      simp only [Bool.not_eq_true, Bool.or_eq_false_iff, Bool.not_eq_false', decide_eq_true_eq] at h0
      exact (tabA_stays g g' ⟨by omega, by omega⟩ (same_of g g' hin hk (by omega) (by simpa using h0.1)) h0.2).symm
    · rw [updE_arg hok hin (by simpa using hk)] at hu
      cases hu
  · rw [updE_off hok (by simpa using hin)] at hu
    cases hu

def marks (N : Nat) (ids : List Int) : List Bool := mrk (fun c => c.1.toNat) N (ids.map fun i => (i, 0))
theorem marks_len (N : Nat) (ids : List Int) : (marks N ids).length = N := mrk_len _ _ _
theorem marks_nil (N : Nat) : marks N [] = List.replicate N false := mrk_nil _ _
theorem marks_snoc {N : Nat} {ids : List Int} {x : Int} (h : x.toNat < N) : marks N (ids ++ [x]) = (marks N ids).set x.toNat true := by
  unfold marks
  rw [List.map_append]
  exact mrk_snoc (f := fun c : Cell => c.1.toNat) (c := (x, 0)) h
theorem marks_at {N i : Nat} {ids : List Int} (hi : i < N) (hp : ∀ x ∈ ids, 0 ≤ x) : (marks N ids)[i]? = some (decide ((i : Int) ∈ ids)) := by
  unfold marks
  rw [mrk_at hi]
  congr 1
  rw [Bool.eq_iff_iff, List.any_eq_true, decide_eq_true_eq]
  constructor
  · rintro ⟨c, hc, he⟩
    obtain ⟨x, hx, rfl⟩ := List.mem_map.1 hc
    have := hp x hx
    have he : x.toNat = i := by simpa using he
    rw [show (i : Int) = x by omega]
    exact hx
  · intro h
    exact ⟨((i : Int), 0), List.mem_map.2 ⟨_, h, rfl⟩, by simp⟩

theorem own_ints {w : World} {base c : Nat} {a : Option Addr} {l : List Int} (h : Own intE w base 3 (.slice a l.length c) l) (h0 : 0 < l.length) : ∃ b off, a = some ⟨b, off, none⟩ ∧ b < w.heap.size ∧ IntsAt w b off l := by
  have h2 := h.reads
  rcases h.reads with ⟨hv, h1⟩ | ⟨b, off, cap, hv, hb, hc⟩
  · rw [h1] at h0; simp at h0
  · injection hv with e1 e2 e3
    subst e1
    exact ⟨b, off, rfl, Reads.ints h2⟩

set_option maxRecDepth 100000 in
theorem rl_far {w : World} (W H : Int) (a : Option Addr) (n c : Nat) (s : Int) {ea : Option Addr} {E : List (Int × Int)} {hd : Bool} (ec : Nat) (he : RowC w ea E) (h : smallT n [(E, hd)] = false) :
    Calls Tryz.prog 7 #[.agg #[.int .i64 W, .int .i64 H, .slice a n c], .int .i64 s, .agg #[.slice ea E.length ec, .bool hd]] w fun e w' => e = .returned (.bool true) ∧ Ext w w' := by
  have HS := hide (fun (w' : World) (b : Nat) (x : Ext w w') (B : Blk w' b 44 #[.slice ea E.length ec, .bool hd]) => small_one (w := w') W H a n c B (he.ext x))
  rw [h] at HS
  obtain ⟨m, hm⟩ : ∃ z, E.length = z := ⟨_, rfl⟩
  rw [hm] at HS ⊢
  clear he h hm
  go_enter Tryz.func7, Tryz.ntmps7
  go_wp2_with fail
  refine (HS.out _ _ (by (with_reducible (repeat' (first | exact Ext.refl _ | assumption | refine Ext.drew ?_ | refine Ext.drewN ?_ _ | refine Ext.alloc ?_ _ | refine Ext.setCell ?_ ?_ _ | refine Ext.trans ?_ (by assumption)))); all_goals (first | (simp; done) | (simp; omega))) (Blk.new_ (by simp))).mono ?_
  rintro e w1 ⟨rfl, hb1⟩
  go_wp2_with fail
  refine (awake14_any _).mono ?_
  rintro e w2 ⟨rfl, hb2⟩
  go_wp2_with fail
  go_ret
  exact ⟨rfl, (by (with_reducible (repeat' (first | exact Ext.refl _ | assumption | refine Ext.drew ?_ | refine Ext.drewN ?_ _ | refine Ext.alloc ?_ _ | refine Ext.setCell ?_ ?_ _ | refine Ext.trans ?_ (by assumption)))); all_goals (first | (simp; done) | (simp; omega)))⟩

set_option maxRecDepth 100000 in
theorem rl_bad {w : World} (W H : Int) (a : Option Addr) (n c : Nat) (s : Int) {ea : Option Addr} {E : List (Int × Int)} {hd : Bool} (ec : Nat) (he : RowC w ea E) (h : smallT n [(E, hd)] = true) (hne : newE W H n s ≠ 0) :
    Calls Tryz.prog 7 #[.agg #[.int .i64 W, .int .i64 H, .slice a n c], .int .i64 s, .agg #[.slice ea E.length ec, .bool hd]] w fun e w' => e = .returned (.bool true) ∧ Ext w w' := by
  have HS := hide (fun (w' : World) (b : Nat) (x : Ext w w') (B : Blk w' b 44 #[.slice ea E.length ec, .bool hd]) => small_one (w := w') W H a n c B (he.ext x))
  rw [h] at HS
  have HB := hide (fun (w' : World) => rdNew_bad (w := w') W H a n c s hne)
  generalize newE W H n s = er at *
  have hne : (er != 0) = true := by simpa using hne
  obtain ⟨m, hm⟩ : ∃ z, E.length = z := ⟨_, rfl⟩
  rw [hm] at HS ⊢
  clear he h hm
  go_enter Tryz.func7, Tryz.ntmps7
  go_wp2_with fail
  refine (HS.out _ _ (by (with_reducible (repeat' (first | exact Ext.refl _ | assumption | refine Ext.drew ?_ | refine Ext.drewN ?_ _ | refine Ext.alloc ?_ _ | refine Ext.setCell ?_ ?_ _ | refine Ext.trans ?_ (by assumption)))); all_goals (first | (simp; done) | (simp; omega))) (Blk.new_ (by simp))).mono ?_
  rintro e w1 ⟨rfl, hb1⟩
  obtain ⟨hc1, hf1⟩ := hb1.cells; have hz1 := hb1.size; (repeat (first | rw [World.size_alloc] at hz1 | rw [World.size_drew] at hz1)); have z1_0 : w.heap.size < w1.heap.size := (by omega)
  go_wp2_with fail
  refine (HB.out _).mono ?_
  rintro e w3 ⟨rfl, hb3⟩
  go_wp2_with fail
  refine (awake14_any _).mono ?_
  rintro e w2 ⟨rfl, hb2⟩
  go_wp2_with fail
  go_ret
  exact ⟨rfl, (by (with_reducible (repeat' (first | exact Ext.refl _ | assumption | refine Ext.drew ?_ | refine Ext.drewN ?_ _ | refine Ext.alloc ?_ _ | refine Ext.setCell ?_ ?_ _ | refine Ext.trans ?_ (by assumption)))); all_goals (first | (simp; done) | (simp; omega)))⟩
theorem gates_few {W H s : Int} {l : List Int} (g : Good W H s l) (hl : l.length ≤ 260) : (gatesA W H s l).length ≤ 50000 := by
  have h1 : cnt W H s ≤ W * H := by
    obtain ⟨r1, r2, r3, r4, r5, r6⟩ := rightB_true.1 g.right
    have b1 := acr_bd W s r5 r6 r1 r2
    have b2 := acr_bd H s r5 r6 r3 r4
    have hle : ∀ L : Int, 1 ≤ L → acr L s ≤ L := fun L hL => by
      unfold acr
      apply Int.ediv_le_of_le_mul (by omega)
      have := Int.mul_nonneg (show (0 : Int) ≤ L - 1 by omega) (show (0 : Int) ≤ s - 1 by omega)
      rw [Int.sub_mul, Int.mul_sub] at this
      omega
    unfold cnt
    exact Int.mul_le_mul (hle W r1) (hle H r3) (by omega) (by omega)
  have h2 := (checkE_ok.1 g.ok).2
  have h3 := g.cnt
  have h4 := ofG_len (l := l) g.right (n := (cnt W H s).toNat) (by omega)
  unfold gatesA
  omega

set_option maxRecDepth 100000 in
set_option maxHeartbeats 4000000 in
theorem rl_main {w : World} {W H : Int} {a : Option Addr} {l : List Int} (c : Nat) {s : Int} {ea : Option Addr} {E : List (Int × Int)} {hd : Bool} (ec : Nat) (g : Good W H s l) (hr : Row16 w a l) (he : RowC w ea E) (hi : ∀ e ∈ E, InI e.1 ∧ InI e.2) (h : smallT l.length [(E, hd)] = true) :
    Calls Tryz.prog 7 #[.agg #[.int .i64 W, .int .i64 H, .slice a l.length c], .int .i64 s, .agg #[.slice ea E.length ec, .bool hd]] w fun e w' => e = .returned (.bool true) ∧ Ext w w' := by
  obtain ⟨hl260, hE20⟩ := smallT_one h
  have HS := hide (fun (w' : World) (b : Nat) (x : Ext w w') (B : Blk w' b 44 #[.slice ea E.length ec, .bool hd]) => small_one (w := w') W H a l.length c B (he.ext x))
  rw [h] at HS
  have HG := hide g
  have HNW := hide (fun (w' : World) (x : Ext w w') => rdNew_yes (w := w') c g (hr.ext x) (gates_few g hl260))
  have HRW := hide hr
  have HTU := hide (fun (w' : World) (x : Ext w w') => turned_any (w := w') (l := l) c g.ok (hr.ext x) (by omega) ec (he.ext x) hE20 hi hd)
  have HTR := hide (turnL_len l E)
  have HNC := hide (namedL_len W l.length E hd)
  have G2 := hide (show Good W H s (turnL l E) from ⟨by rw [turnL_len]; exact g.ok, g.right, turnL_u16 g.u16 E⟩)
  have HE20 := hide hE20
  have hw1 : ¬ W < 1 := by have := (mayB_true.1 (checkE_ok.1 g.ok).1); omega
  have hw1' : decide (W < 1) = false := by simp; omega
  have hpos : 1 ≤ l.length := by
    obtain ⟨hm, hl⟩ := checkE_ok.1 g.ok
    obtain ⟨q1, q2, q3, q4⟩ := mayB_true.1 hm
    have := Int.mul_pos (show (0 : Int) < W by omega) (show (0 : Int) < H by omega)
    omega
  have bcn := g.cnt
  have hlen := g.len
  obtain ⟨N, hN⟩ : ∃ N : Nat, (cnt W H s).toNat = N := ⟨_, rfl⟩
  have HN := hide (show cnt W H s = (N : Int) by omega)
  have hN2 : N ≤ 65536 := by omega
  have HGS1 := hide (gates_few g hl260)
  have HGS2 := hide (gates_few G2.out (by rw [HTR.out]; exact hl260))
  obtain ⟨n, hn⟩ : ∃ z, l.length = z := ⟨_, rfl⟩
  obtain ⟨m, hm⟩ : ∃ z, E.length = z := ⟨_, rfl⟩
  have LN := hide hn
  have LM := hide hm
  rw [hn, hm] at HS HTU
  rw [hn] at HNW hpos hl260 HNC
  rw [hn, hm]
  have hn1 : ¬ (n : Int) < 1 := by omega
  have hn1' : decide ((n : Int) < 1) = false := by simp; omega
  clear g hr he hi h hE20 hn hm hN bcn hlen
  go_enter Tryz.func7, Tryz.ntmps7
  go_wp2_with fail
  refine (HS.out _ _ (by (with_reducible (repeat' (first | exact Ext.refl _ | assumption | refine Ext.drew ?_ | refine Ext.drewN ?_ _ | refine Ext.alloc ?_ _ | refine Ext.setCell ?_ ?_ _ | refine Ext.trans ?_ (by assumption)))); all_goals (first | (simp; done) | (simp; omega))) (Blk.new_ (by simp))).mono ?_
  rintro e w1 ⟨rfl, hb1⟩
  have B1 := hide (show Blk w1 w.heap.size 26 #[.int .i64 W, .int .i64 H, .slice a n c] from by refine Blk.ext ?_ hb1; exact (Blk.new_ rfl).over.over)
  have T1 := hide (show Blk w1 (w.heap.size + 1) 44 #[.slice ea m ec, .bool hd] from by refine Blk.ext ?_ hb1; exact (Blk.new_ (by simp)).over)
  have X1 := hide (show Ext w w1 from (by (with_reducible (repeat' (first | exact Ext.refl _ | assumption | refine Ext.drew ?_ | refine Ext.drewN ?_ _ | refine Ext.alloc ?_ _ | refine Ext.setCell ?_ ?_ _ | refine Ext.trans ?_ (by assumption)))); all_goals (first | (simp; done) | (simp; omega))))
  have y0 := B1.out.at 0 rfl; have y1 := B1.out.at 1 rfl; have y2 := B1.out.at 2 rfl; have yz := B1.out.lt
  have u0 := T1.out.at 0 rfl; have u1 := T1.out.at 1 rfl; have uz := T1.out.lt
  clear hb1
  go_wp2_with fail
  refine (HNW.out _ X1.out).mono ?_
  rintro e w2 ⟨p, R, rfl, hw, x2, hF, hR⟩
  have B2 := hide (B1.out.ext x2)
  have T2 := hide (T1.out.ext x2)
  have X2 := hide (X1.out.trans x2)
  have HW := hide hw
  have HF := hide (show ∀ k, p.F k → w.heap.size + 1 < k ∧ k < w2.heap.size from fun k hk => by
    have h1 := hF k hk
    have h2 := T1.out.lt
    obtain ⟨G, T, h3, _⟩ := hw
    have h4 := h3.foot hk
    omega)
  have HA := hide (show ∀ k, R k → ¬ p.F k from by obtain ⟨G, T, h3, _⟩ := hw; exact h3.apart)
  have z12 := x2.size
  clear hw x2 hF hR y0 y1 y2 yz u0 u1 uz B1 T1 X1
  have y0 := B2.out.at 0 rfl; have y1 := B2.out.at 1 rfl; have y2 := B2.out.at 2 rfl; have yz := B2.out.lt
  have u0 := T2.out.at 0 rfl; have u1 := T2.out.at 1 rfl; have uz := T2.out.lt
  go_wp2_with fail
  refine (rdClone_any HW.out).mono ?_
  rintro e w3 ⟨q, S, rfl, x3, hw3, hqF, hqS⟩
  have B3 := hide (B2.out.ext x3)
  have T3 := hide (T2.out.ext x3)
  have X3 := hide (X2.out.trans x3)
  have WA3 := hide (HW.out.ext x3)
  have WC3 := hide hw3
  have QF := hide hqF
  have QS := hide hqS
  have z23 := x3.size
  clear x3 hw3 hqF hqS y0 y1 y2 yz u0 u1 uz B2 T2 X2 HW
  have y0 := B3.out.at 0 rfl; have y1 := B3.out.at 1 rfl; have y2 := B3.out.at 2 rfl; have yz := B3.out.lt
  have u0 := T3.out.at 0 rfl; have u1 := T3.out.at 1 rfl; have uz := T3.out.lt
  go_wp2_with fail
  refine (HTU.out _ X3.out).mono ?_
  rintro e w5 ⟨ga, gc, v5, rfl, x5, og5, oc5⟩
  rw [HTR.out, LN.out] at og5 ⊢
  obtain ⟨ca5, cc5, rfl⟩ := oc5.slice
  have B5 := hide (B3.out.ext x5)
  have T5 := hide (T3.out.ext x5)
  have X5 := hide (X3.out.trans x5)
  have WA5 := hide (WA3.out.ext x5)
  have WC5 := hide (WC3.out.ext x5)
  have OG5 := hide (og5.lower (base' := w3.heap.size) (Nat.le_refl _))
  have OC5 := hide (oc5.lower (base' := w3.heap.size) (Nat.le_refl _))
  have z35 := x5.size
  clear og5 oc5 x5 y0 y1 y2 yz u0 u1 uz B3 T3 X3 WA3 WC3
  have HUP : Hid (∀ w', Ext w5 w' → Calls Tryz.prog 22 #[.pointer (some ⟨p.b, 0, none⟩), .agg #[.int .i64 W, .int .i64 H, .slice ga n gc], .slice ca5 (namedL W n E hd).length cc5] w' (Upd w' p R W H s l W H (turnL l E) (namedL W n E hd))) := hide (fun w' x => by
    have h := upd_any (WA5.out.ext x) gc (row16_ownG (OG5.out.ext x)) G2.out.u16 cc5 (Reads.rowC (OC5.out.ext x).reads).2 (by have := HNC.out; have := HE20.out; omega) G2.out.ok HGS2.out
    rw [HTR.out, LN.out] at h
    exact h)
  have y0 := B5.out.at 0 rfl; have y1 := B5.out.at 1 rfl; have y2 := B5.out.at 2 rfl; have yz := B5.out.lt
  have u0 := T5.out.at 0 rfl; have u1 := T5.out.at 1 rfl; have uz := T5.out.lt
  go_wp2_with fail
  obtain ⟨w6, hw6⟩ : ∃ z, z = w5.alloc (.cells #[.int .i64 W, .int .i64 H, .slice ga n gc] 26) := ⟨_, rfl⟩
  have X56 : Ext w5 w6 := by rw [hw6]; exact (Ext.refl _).alloc _
  have BG6 := hide (show Blk w6 w5.heap.size 26 #[.int .i64 W, .int .i64 H, .slice ga n gc] by rw [hw6]; exact Blk.new_ rfl)
  have B6 := hide (B5.out.ext X56)
  have X6 := hide (X5.out.trans X56)
  have WA6 := hide (WA5.out.ext X56)
  have WC6 := hide (WC5.out.ext X56)
  have OG6 := hide (OG5.out.ext X56)
  have z56 := X56.size
  rw [← hw6]
  refine (HUP.out _ X56).mono ?_
  clear HUP hw6 X56 y0 y1 y2 yz u0 u1 uz B5 T5 X5 WA5 WC5 OG5 OC5
  rintro e w7 hu
  rcases hu with ⟨hne, rfl, x7⟩ | ⟨he0, v7, p7, R7, rfl, o7, hw7, hb7, hF7, t7, hR7⟩
  · have HSm := hide (fun (w' : World) (x : Ext w6 w') => rdSame_any (WA6.out.ext x) (WC6.out.ext x) HGS1.out)
    simp only [decide_true] at HSm
    generalize updE W H l W H (turnL l E) (namedL W n E hd) = er at *
    have hne : (er != 0) = true := by simpa using hne
    go_wp2_with fail
    refine (HSm.out _ x7).mono ?_
    rintro e w8 ⟨rfl, hb8⟩
    go_wp2_with fail
    refine (awake14_any _).mono ?_
    rintro e w9 ⟨rfl, hb9⟩
    go_wp2_with fail
    go_ret
    exact ⟨rfl, ((X6.out.trans x7).trans hb8).trans hb9⟩
  · rw [show (cnt W H s).toNat = N by rw [HN.out]; rfl] at o7
    obtain ⟨ia, ic, rfl⟩ := o7.slice
    obtain ⟨ids, hids⟩ : ∃ ids, toldU W H s l (turnL l E) (namedL W n E hd) N = ids := ⟨_, rfl⟩
    have HAT := hide (fun (x : Int) (hx : x ∈ ids) => toldU_at (hids ▸ hx))
    have HRI := hide (show ids.Pairwise (· < ·) by rw [← hids]; exact toldU_rises _ _ _ _ _ _ _)
    have HLE := hide (show ids.length ≤ N by rw [← hids]; exact toldU_len _ _ _ _ _ _ _)
    have HKE := hide (fun (i : Nat) (hi : i < N) (h : ¬ (i : Int) ∈ ids) => toldU_kept HG.out G2.out HN.out hi he0 (by rw [hids]; exact h))
    rw [hids] at o7 ⊢
    have B7 := hide (B6.out.touch t7 (fun h => by have := HF.out _ h; omega))
    have BG7 := hide (BG6.out.touch t7 (fun h => by have := (HF.out _ h).2; omega))
    have OG7 := hide (OG6.out.touch t7 (fun k hk h => by have := (HF.out _ h).2; have := (own_lt OG6.out hk).1; omega))
    have WC7 := hide (WC6.out.touch t7 (fun k hk h => by have := QF.out k hk; have := (HF.out _ h).2; omega) (fun k hk h => (QS.out k hk).elim (fun hr => HA.out k hr h) (fun hge => by have := (HF.out _ h).2; omega)))
    have X7 := hide (X6.out.of_below (t7.to_below X6.out.size (fun k h => by have := HF.out _ h; omega)) (Nat.le_refl _))
    have WA7 := hide hw7
    have O7 := hide o7
    have z67 := t7.size
    have HSm := hide (fun (w' : World) (x : Ext w7 w') => rdSame_any (WA7.out.ext x) (WC7.out.ext x) HGS2.out)
    have HGr := hide (fun (w' : World) (x : Ext w7 w') => gSame_any W H a ga l (turnL l E) c gc w' (by rw [LN.out]; omega) (HRW.out.ext (X7.out.trans x)) (row16_ownG (OG7.out.ext x)))
    have HP := hide (fun (w' : World) (x : Ext w7 w') => (by obtain ⟨G, T, h1, _⟩ := WA7.out.ext x; exact rdParts_any h1 : Calls Tryz.prog 30 #[.pointer (some ⟨p7.b, 0, none⟩)] w' fun e w'' => e = .returned (.agg #[.int .i64 W, .int .i64 H, .int .i64 s]) ∧ Ext w' w''))
    have HTA := hide (fun (w' : World) (x : Ext w7 w') (i : Nat) (hi : i < N) => rdTable_yes (WC7.out.ext x) i (by rw [HN.out]; omega))
    have HTB := hide (fun (w' : World) (x : Ext w7 w') (i : Nat) (hi : i < N) => rdTable_yes (WA7.out.ext x) i (by rw [HN.out]; omega))
    rw [hb7] at HSm HP HTB
    have hq : decide (turnL l E = l) = decide (l = turnL l E) := by rw [Bool.eq_iff_iff]; simp [eq_comm]
    rw [hq] at HSm
    rw [HTR.out, LN.out] at HGr
    generalize decide (l = turnL l E) = bq at HSm HGr
    clear hq he0 o7 hw7 hb7 hF7 t7 hR7 hids B6 BG6 OG6 WC6 X6 WA6
    have y0 := B7.out.at 0 rfl; have y1 := B7.out.at 1 rfl; have y2 := B7.out.at 2 rfl; have yz := B7.out.lt
    have v0 := BG7.out.at 0 rfl; have v1 := BG7.out.at 1 rfl; have v2 := BG7.out.at 2 rfl; have vz := BG7.out.lt
    go_wp2_with fail
    refine seqH_start (S := (fun W => (∀ b o, b < w7.heap.size → W.cell? ⟨b, o, none⟩ = w7.cell? ⟨b, o, none⟩) ∧ Ext w7 W)) [(0, true), (1, true), (2, true), (3, true), (4, true), (6, true), (7, true), (5, false), (8, false), (9, true), (10, true)] (by kernel_rfl) (by kernel_rfl) (by kernel_rfl) (by decide) (fun _ _ d _ _ h => by cases d <;> exact h) (by first | with_reducible exact pr_start _ | exact pr_of (by (with_reducible (repeat' (first | exact Ext.refl _ | assumption | refine Ext.drew ?_ | refine Ext.drewN ?_ _ | refine Ext.alloc ?_ _ | refine Ext.setCell ?_ ?_ _ | refine Ext.trans ?_ (by assumption)))); all_goals (first | (simp; done) | (simp; omega)))) (fun hHeld => ?_)
    iterate 7 (apply SeqH.free; (· (simp only [List.getElem?_toArray, List.getElem?_cons_succ, List.getElem?_cons_zero]; rfl)); (· first | exact Or.inr ⟨by rfl, rfl⟩ | (refine Or.inl ⟨by rfl, ?_⟩; intro w hSw; (try dsimp only at hSw); go_simp; try with_reducible rfl)); try simp only [Act.put, List.setIfInBounds_toArray, List.set_cons_zero, List.set_cons_succ])
    (apply SeqH.step; (· (simp only [List.getElem?_toArray, List.getElem?_cons_succ, List.getElem?_cons_zero]; rfl)); intro K hK; go_simp; refine (HSm.out _ (by (with_reducible (repeat' (first | exact Ext.refl _ | assumption | refine Ext.drew ?_ | refine Ext.drewN ?_ _ | refine Ext.alloc ?_ _ | refine Ext.setCell ?_ ?_ _ | refine Ext.trans ?_ (by assumption)))); all_goals (first | (simp; done) | (simp; omega)))).mono ?_; rintro e w8 ⟨rfl, hb8⟩; go_wp2_with fail; refine hK.out _ _ (pr_of (by (with_reducible (repeat' (first | exact Ext.refl _ | assumption | refine Ext.drew ?_ | refine Ext.drewN ?_ _ | refine Ext.alloc ?_ _ | refine Ext.setCell ?_ ?_ _ | refine Ext.trans ?_ (by assumption)))); all_goals (first | (simp; done) | (simp; omega)))) (fun hHeld => ?_); clear hK K; try simp only [Act.put, List.setIfInBounds_toArray, List.set_cons_zero, List.set_cons_succ])
    (apply SeqH.step; (· (simp only [List.getElem?_toArray, List.getElem?_cons_succ, List.getElem?_cons_zero]; rfl)); intro K hK; go_simp; refine (HGr.out _ (by (with_reducible (repeat' (first | exact Ext.refl _ | assumption | refine Ext.drew ?_ | refine Ext.drewN ?_ _ | refine Ext.alloc ?_ _ | refine Ext.setCell ?_ ?_ _ | refine Ext.trans ?_ (by assumption)))); all_goals (first | (simp; done) | (simp; omega)))).mono ?_; rintro e w9 ⟨rfl, hb9⟩; go_wp2_with fail; refine hK.out _ _ (pr_of (by (with_reducible (repeat' (first | exact Ext.refl _ | assumption | refine Ext.drew ?_ | refine Ext.drewN ?_ _ | refine Ext.alloc ?_ _ | refine Ext.setCell ?_ ?_ _ | refine Ext.trans ?_ (by assumption)))); all_goals (first | (simp; done) | (simp; omega)))) (fun hHeld => ?_); clear hK K; try simp only [Act.put, List.setIfInBounds_toArray, List.set_cons_zero, List.set_cons_succ])
    (apply SeqH.free (v := .bool false); (· (simp only [List.getElem?_toArray, List.getElem?_cons_succ, List.getElem?_cons_zero]; rfl)); (· refine Or.inl ⟨by rfl, ?_⟩; intro w hSw; (try dsimp only at hSw); go_simp); try simp only [Act.put, List.setIfInBounds_toArray, List.set_cons_zero, List.set_cons_succ])
    iterate 1 (apply SeqH.free; (· (simp only [List.getElem?_toArray, List.getElem?_cons_succ, List.getElem?_cons_zero]; rfl)); (· first | exact Or.inr ⟨by rfl, rfl⟩ | (refine Or.inl ⟨by rfl, ?_⟩; intro w hSw; (try dsimp only at hSw); go_simp; try with_reducible rfl)); try simp only [Act.put, List.setIfInBounds_toArray, List.set_cons_zero, List.set_cons_succ])
    refine SeqH.done ?_
    have XE := hide hHeld.2
    have ze := XE.out.size
    clear hHeld
    go_wp2_with fail
    refine (HP.out _ XE.out).mono ?_
    rintro e w11 ⟨rfl, hb11⟩
    go_wp2_with fail
    refine (count_yes W H s _ HG.out.right).mono ?_
    rintro e w12 ⟨rfl, x12⟩
    rw [HN.out]
    have X12 := hide ((XE.out.trans hb11).trans x12)
    have zc := X12.out.size
    clear y0 y1 y2 yz v0 v1 v2 vz x12 hb11 XE ze
    go_wp2_with (at_make; refine wpList_make_one boolE T_bools false rfl rfl rfl rfl _ _ rfl w12.heap.size N rfl rfl (by omega) (by decide) (Nat.le_refl _) ?_)
    intro gt w13 hgt o13 x13
    have hgt1 : w12.heap.size ≤ gt := by omega
    have hgt2 : gt < w13.heap.size := (own_lt o13 (k := gt) rfl).2
    have X13 := hide (X12.out.trans x13)
    have OB := hide (show Own boolE w13 w12.heap.size 4 (.slice (some ⟨gt, 0, none⟩) N N) (marks N (ids.take 0)) by rw [List.take_zero, marks_nil]; exact o13)
    obtain ⟨u, hu⟩ : ∃ z, ids.length = z := ⟨_, rfl⟩
    have LU := hide hu
    have HLU := HLE.out
    rw [hu] at HLU ⊢
    clear hgt o13 x13 X12 hu
    go_wp2_with fail
    go_loopw [16] (fun i wr => ∃ k : Nat, k ≤ u ∧ i = .int .i64 (k : Int) ∧ Ext w7 wr ∧ gt < wr.heap.size ∧ Own boolE wr w12.heap.size 4 (.slice (some ⟨gt, 0, none⟩) N N) (marks N (ids.take k))) (fun i _ => u - (intOf i).toNat)
    case atStart => exact ⟨0, Nat.zero_le _, rfl, X13.out, hgt2, OB.out⟩
    case round =>
      obtain ⟨k, hk, rfl, hx, hgr, ho⟩ := hrel
      have XR := hide hx
      have OR := hide ho
      have zr := hx.size
      clear hx ho X13 OB
      by_cases hlt : k < u
      · have hkl : k < ids.length := by rw [LU.out]; exact hlt
        obtain ⟨ib, ioff, rfl, hib, hic⟩ := own_ints O7.out (by omega)
        obtain ⟨ix, hix⟩ : ∃ ix : Nat, ids[k] = (ix : Int) := ⟨ids[k].toNat, by have := (HAT.out ids[k] (List.getElem_mem hkl)).1; omega⟩
        have hixN : ix < N := by have := (HAT.out ids[k] (List.getElem_mem hkl)).2; omega
        have d0 := (XR.out.cell (p := ⟨ib, ioff + k, none⟩) hib).trans (hic k hkl)
        rw [hix] at d0
        have HTK := hide (show ids.take (k + 1) = ids.take k ++ [(ix : Int)] by rw [List.take_add_one, List.getElem?_eq_getElem hkl, hix]; rfl)
        have hbw : ib < wr.heap.size := by omega
        have jk : (k : Int) < (u : Int) := by omega
        have j0 : ¬ (ix : Int) < 0 := by omega
        have j1 : decide ((ix : Int) < 0) = false := decide_eq_false (by omega)
        have j2 : decide ((N : Int) ≤ (ix : Int)) = false := decide_eq_false (by omega)
        have j3 : decide (N ≤ ix) = false := decide_eq_false (by omega)
        have ob := own_bool_at OR.out (marks_at (ids := ids.take k) hixN (fun x hx => (HAT.out x (List.mem_of_mem_take hx)).1))
        have of := own_bool_frozen OR.out ix
        have jx : (ix : Int) < (N : Int) := by omega
        go_wp2_with fail
        cases k with
        | zero =>
          rw [Nat.add_zero] at d0
          refine seqH_start (S := (fun W => (∀ b o, b < wr.heap.size → W.cell? ⟨b, o, none⟩ = wr.cell? ⟨b, o, none⟩) ∧ Ext wr W)) [(0, true), (1, true), (2, true), (3, true), (4, true), (5, true), (6, true), (7, true), (8, true), (9, true), (10, true), (11, true), (12, true), (13, true), (14, true), (15, true), (16, true), (17, true), (18, true), (19, true), (20, true), (21, true), (22, true), (23, true), (24, true), (25, true), (26, true), (27, true), (28, true)] (by kernel_rfl) (by kernel_rfl) (by kernel_rfl) (by decide) (fun _ _ d _ _ h => by cases d <;> exact h) (by first | with_reducible exact pr_start _ | exact pr_of (by (with_reducible (repeat' (first | exact Ext.refl _ | assumption | refine Ext.drew ?_ | refine Ext.drewN ?_ _ | refine Ext.alloc ?_ _ | refine Ext.setCell ?_ ?_ _ | refine Ext.trans ?_ (by assumption)))); all_goals (first | (simp; done) | (simp; omega)))) (fun hHeld => ?_)
          iterate 29 (apply SeqH.free; (· (simp only [List.getElem?_toArray, List.getElem?_cons_succ, List.getElem?_cons_zero]; rfl)); (· first | exact Or.inr ⟨by rfl, rfl⟩ | (refine Or.inl ⟨by rfl, ?_⟩; intro w hSw; (try dsimp only at hSw); go_simp; try with_reducible rfl)); try simp only [Act.put, List.setIfInBounds_toArray, List.set_cons_zero, List.set_cons_succ])
          refine SeqH.done ?_
          have XE := hide hHeld.2
          have hz := XE.out.size
          have OE := hide (OR.out.ext XE.out)
          have oe := own_bool_at OE.out (marks_at (ids := ids.take (0)) hixN (fun x hx => (HAT.out x (List.mem_of_mem_take hx)).1))
          have fe := own_bool_frozen OE.out ix
          have d0e := (XE.out.cell hbw).trans d0
          clear hHeld ob of d0
          go_wp2_with fail
          obtain ⟨we, hwf⟩ : ∃ z, z = (wr.setCell ⟨gt, ix, none⟩ (.bool true)).drew := ⟨_, rfl⟩
          have hwe : we = wr.drew.setCell ⟨gt, ix, none⟩ (.bool true) := hwf
          have TE : Touch (fun j => j = gt) wr.drew we := by rw [hwe]; exact touch1 wr.drew gt ix _
          have OE2 := hide (show Own boolE we w12.heap.size 4 (.slice (some ⟨gt, 0, none⟩) N N) (marks N (ids.take (0 + 1))) by rw [hwe, HTK.out, marks_snoc (x := (ix : Int)) (by simpa using hixN)]; simp only [Int.toNat_natCast]; exact bool_turn OE.out (by rw [marks_len]; exact hixN) true)
          have X2 := hide ((XR.out.trans XE.out).of_below (TE.to_below (XR.out.trans XE.out).size (fun j e => by omega)) (Nat.le_refl _))
          have ts := TE.size
          rw [← hwf]
          clear hwe hwf oe fe d0e
          go_roundw
          case rel => exact ⟨0 + 1, by omega, by go_num, X2.out, by omega, OE2.out⟩
          case measure => simp [intOf]; omega
        | succ k =>
          have d1 := (XR.out.cell (p := ⟨ib, ioff + k, none⟩) hib).trans (hic k (by omega))
          obtain ⟨y, hy⟩ : ∃ y, ids[k]'(by omega) = y := ⟨_, rfl⟩
          have hyx : y < (ix : Int) := by rw [← hy, ← hix]; exact List.pairwise_iff_getElem.1 HRI.out k (k + 1) _ _ (by omega)
          rw [hy] at d1
          have j4 : decide ((ix : Int) ≤ y) = false := decide_eq_false (by omega)
          have j5 : (k : Int) + 1 < (u : Int) := by omega
          have j6 : (0 : Int) ≤ (k : Int) + 1 := by omega
          have j7 : (k : Int) < (u : Int) := by omega
          have j8 : (0 : Int) < (k : Int) + 1 := by omega
          have j9 : IntKind.i64.wrap (k : Int) = (k : Int) := IntWalk.i64_in _ (by omega)
          refine seqH_start (S := (fun W => (∀ b o, b < wr.heap.size → W.cell? ⟨b, o, none⟩ = wr.cell? ⟨b, o, none⟩) ∧ Ext wr W)) [(0, true), (1, true), (2, true), (3, true), (4, true), (5, true), (6, true), (7, true), (8, true), (9, true), (10, true), (11, true), (12, true), (13, true), (14, true), (15, true), (16, true), (17, true), (18, true), (19, true), (20, true), (21, true), (22, true), (23, true), (24, true), (25, true), (26, true), (27, true), (28, true)] (by kernel_rfl) (by kernel_rfl) (by kernel_rfl) (by decide) (fun _ _ d _ _ h => by cases d <;> exact h) (by first | with_reducible exact pr_start _ | exact pr_of (by (with_reducible (repeat' (first | exact Ext.refl _ | assumption | refine Ext.drew ?_ | refine Ext.drewN ?_ _ | refine Ext.alloc ?_ _ | refine Ext.setCell ?_ ?_ _ | refine Ext.trans ?_ (by assumption)))); all_goals (first | (simp; done) | (simp; omega)))) (fun hHeld => ?_)
          iterate 29 (apply SeqH.free; (· (simp only [List.getElem?_toArray, List.getElem?_cons_succ, List.getElem?_cons_zero]; rfl)); (· first | exact Or.inr ⟨by rfl, rfl⟩ | (refine Or.inl ⟨by rfl, ?_⟩; intro w hSw; (try dsimp only at hSw); go_simp; try with_reducible rfl)); try simp only [Act.put, List.setIfInBounds_toArray, List.set_cons_zero, List.set_cons_succ])
          refine SeqH.done ?_
          have XE := hide hHeld.2
          have hz := XE.out.size
          have OE := hide (OR.out.ext XE.out)
          have oe := own_bool_at OE.out (marks_at (ids := ids.take (k + 1)) hixN (fun x hx => (HAT.out x (List.mem_of_mem_take hx)).1))
          have fe := own_bool_frozen OE.out ix
          have d0e := (XE.out.cell hbw).trans d0
          clear hHeld ob of d0
          go_wp2_with fail
          obtain ⟨we, hwf⟩ : ∃ z, z = (wr.setCell ⟨gt, ix, none⟩ (.bool true)).drew := ⟨_, rfl⟩
          have hwe : we = wr.drew.setCell ⟨gt, ix, none⟩ (.bool true) := hwf
          have TE : Touch (fun j => j = gt) wr.drew we := by rw [hwe]; exact touch1 wr.drew gt ix _
          have OE2 := hide (show Own boolE we w12.heap.size 4 (.slice (some ⟨gt, 0, none⟩) N N) (marks N (ids.take (k + 1 + 1))) by rw [hwe, HTK.out, marks_snoc (x := (ix : Int)) (by simpa using hixN)]; simp only [Int.toNat_natCast]; exact bool_turn OE.out (by rw [marks_len]; exact hixN) true)
          have X2 := hide ((XR.out.trans XE.out).of_below (TE.to_below (XR.out.trans XE.out).size (fun j e => by omega)) (Nat.le_refl _))
          have ts := TE.size
          rw [← hwf]
          clear hwe hwf oe fe d0e
          go_roundw
          case rel => exact ⟨k + 1 + 1, by omega, by go_num, X2.out, by omega, OE2.out⟩
          case measure => simp [intOf]; omega
      · obtain rfl : u = k := by omega
        have HTK : Hid (ids.take u = ids) := hide (List.take_of_length_le (by rw [LU.out]; exact Nat.le_refl _))
        rw [HTK.out] at OR
        go_wp2_with fail
        go_loopw [17] (fun i wq => ∃ j : Nat, j ≤ N ∧ i = .int .i64 (j : Int) ∧ Ext wr wq) (fun i _ => N - (intOf i).toNat)
        case atStart => exact ⟨0, Nat.zero_le _, rfl, Ext.refl _⟩
        case round =>
          obtain ⟨j, hj, rfl, hx⟩ := hrel
          have XQ := hide hx
          have X7q := hide (XR.out.trans hx)
          clear hx
          by_cases hlt : j < N
          · have jN : (j : Int) < (N : Int) := by omega
            go_wp2_with fail
            refine (HTA.out _ X7q.out j hlt).mono ?_
            rintro e w14 ⟨v1, v2, rfl, x14, oc1, or1⟩
            have HLA := hide (tabA_len HG.out (id := (j : Int)) ⟨by omega, by rw [HN.out]; omega⟩)
            have HLB := hide (tabA_len G2.out (id := (j : Int)) ⟨by omega, by rw [HN.out]; omega⟩)
            have HKJ := hide (HKE.out j hlt)
            obtain ⟨tA, htA⟩ : ∃ z, tabA W H s l (j : Int) = z := ⟨_, rfl⟩
            obtain ⟨tB, htB⟩ : ∃ z, tabA W H s (turnL l E) (j : Int) = z := ⟨_, rfl⟩
            have HTBj := hide (fun (w' : World) (x : Ext w7 w') => HTB.out w' x j hlt)
            rw [htA] at oc1 or1 HLA HKJ
            rw [htB] at HLB HKJ HTBj
            obtain ⟨a1, c1, rfl⟩ := oc1.slice
            obtain ⟨r1, d1, rfl, ru1⟩ := rowsU_of or1
            have X14 := hide (XQ.out.trans x14)
            have RC1 := hide (Reads.rowC oc1.reads).2
            have RU1 := hide ru1
            obtain ⟨nA, hnA⟩ : ∃ z, tA.1.length = z := ⟨_, rfl⟩
            obtain ⟨mA, hmA⟩ : ∃ z, tA.2.length = z := ⟨_, rfl⟩
            obtain ⟨nB, hnB⟩ : ∃ z, tB.1.length = z := ⟨_, rfl⟩
            obtain ⟨mB, hmB⟩ : ∃ z, tB.2.length = z := ⟨_, rfl⟩
            have LA1 := hide hnA
            have LA2 := hide hmA
            have LB1 := hide hnB
            have LB2 := hide hmB
            rw [hnA, hmA]
            have z14 := x14.size
            clear oc1 or1 ru1 x14 htA htB hnA hmA hnB hmB
            go_wp2_with fail
            obtain ⟨wa, hwa⟩ : ∃ z, z = w14.alloc (.cells #[.slice a1 nA c1, .slice r1 mA d1] 74) := ⟨_, rfl⟩
            have xwa : Ext w14 wa := by rw [hwa]; exact (Ext.refl _).alloc _
            have TA := hide (show Blk wa w14.heap.size 74 #[.slice a1 nA c1, .slice r1 mA d1] by rw [hwa]; exact Blk.new_ rfl)
            have XA := hide (X14.out.trans xwa)
            have RC1a := hide (RC1.out.ext xwa)
            have RU1a := hide (RU1.out.ext xwa)
            have zwa : w14.heap.size < wa.heap.size := TA.out.lt
            rw [← hwa]
            clear hwa xwa X14 RC1 RU1
            refine (HTBj.out _ (XR.out.trans XA.out)).mono ?_
            rintro e w15 ⟨v3, v4, rfl, x15, oc2, or2⟩
            obtain ⟨a2, c2, rfl⟩ := oc2.slice
            obtain ⟨r2, d2, rfl, ru2⟩ := rowsU_of or2
            rw [LB1.out, LB2.out]
            have RC2 := hide (Reads.rowC oc2.reads).2
            have RU2 := hide ru2
            have RC1b := hide (RC1a.out.ext x15)
            have RU1b := hide (RU1a.out.ext x15)
            have TAb := hide (TA.out.ext x15)
            have X15 := hide (XA.out.trans x15)
            have z15 := x15.size
            clear oc2 or2 ru2 x15 TA XA RC1a RU1a
            go_upto_region 28 with (fail)
            obtain ⟨wb, hwb⟩ : ∃ z, z = w15.alloc (.cells #[.slice a2 nB c2, .slice r2 mB d2] 74) := ⟨_, rfl⟩
            have xwb : Ext w15 wb := by rw [hwb]; exact (Ext.refl _).alloc _
            have TBb := hide (show Blk wb w15.heap.size 74 #[.slice a2 nB c2, .slice r2 mB d2] by rw [hwb]; exact Blk.new_ rfl)
            have TAc := hide (TAb.out.ext xwb)
            have XB := hide (X15.out.trans xwb)
            have HSM : Hid (∀ w', Ext wb w' → tA = tB → Calls Tryz.prog 34 #[.agg #[.slice a1 nA c1, .slice r1 mA d1], .agg #[.slice a2 nB c2, .slice r2 mB d2]] w' fun e w'' => e = .returned (.bool true) ∧ Ext w' w'') := hide (fun w' x he => by
              have h := iSame_any a1 a2 r1 r2 tA.1 tB.1 tA.2 tB.2 c1 c2 d1 d2 w' (by have := HLA.out.1; omega) (RC1b.out.ext (xwb.trans x)) (RC2.out.ext (xwb.trans x)) (by have := HLA.out.2.1; omega) (RU1b.out.ext (xwb.trans x)) (RU2.out.ext (xwb.trans x)) (fun r hr => by have := HLA.out.2.2 r hr; omega)
              rw [LA1.out, LA2.out, LB1.out, LB2.out, he] at h
              simpa using h)
            have zwb : w15.heap.size < wb.heap.size := TBb.out.lt
            rw [← hwb]
            have OB2 := hide (OR.out.ext XB.out)
            have ob := own_bool_at OB2.out (marks_at hlt (fun x hx => (HAT.out x hx).1))
            clear hwb xwb X15 RC1b RU1b RC2 RU2 TAb
            have y0 := TAc.out.at 0 rfl; have y1 := TAc.out.at 1 rfl; have yz := TAc.out.lt
            have v0 := TBb.out.at 0 rfl; have v1 := TBb.out.at 1 rfl; have vz := TBb.out.lt
            have hgj : gt < wb.heap.size := by have := XQ.out.size; omega
            by_cases hin : (j : Int) ∈ ids
            · have hd : decide ((j : Int) ∈ ids) = true := decide_eq_true hin
              rw [hd] at ob
              clear hd hin HKJ
              go_wp2_with fail
              go_roundw
              case rel => exact ⟨j + 1, by omega, by go_num, XB.out⟩
              case measure => simp [intOf]; omega
            · have hd : decide ((j : Int) ∈ ids) = false := decide_eq_false hin
              rw [hd] at ob
              have hAB := HKJ.out hin
              clear hd hin HKJ
              go_wp2_with fail
              refine (HSM.out _ (Ext.refl _) hAB).mono ?_
              rintro e w16 ⟨rfl, x16⟩
              go_wp2_with fail
              go_roundw
              case rel => exact ⟨j + 1, by omega, by go_num, XB.out.trans x16⟩
              case measure => simp [intOf]; omega
          · obtain rfl : N = j := by omega
            go_wp2_with fail
            refine (awake14_any _).mono ?_
            rintro e w3 ⟨rfl, hb3⟩
            go_wp2_with fail
            go_ret
            exact ⟨rfl, (X7.out.trans X7q.out).trans hb3⟩

end Go.Proofs.YtkioohhjjdlhiaaGreat
