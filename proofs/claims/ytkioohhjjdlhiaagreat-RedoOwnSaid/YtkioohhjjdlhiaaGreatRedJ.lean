/- The walk of redo's Update. -/
import Derived.Test.YtkioohhjjdlhiaaGreatRedI
import Derived.Test.YtkioohhjjdlhiaaGreatRedH
set_option linter.all false
set_option linter.unusedVariables false
set_option linter.unusedSimpArgs false
namespace Go.Proofs.YtkioohhjjdlhiaaGreat
open Go.RowKit

theorem gIndex_yes (W H x y : Int) (w : World) (h : inB W H x y = true) : Calls Tryz.prog 69 #[.agg #[.int .i64 W, .int .i64 H], .agg #[.int .i64 x, .int .i64 y]] w fun e w' => e = .returned (.tuple #[.int .i64 ((idxN W (x, y) : Nat) : Int), .int .i64 0]) ∧ Ext w w' := by
 have hi := inB_true.1 h
 have e : ((idxN W (x, y) : Nat) : Int) = y * W + x := idx_int (by omega) (by omega) (by omega)
 rw [e]
 have b := mul_bd (a := y) (b := W) (A := 256) (B := 256) (by omega) (by omega) (by omega) (by omega)
 have k1 : IntKind.i64.wrap (y * W) = y * W := IntWalk.i64_in _ (by omega)
 have k2 : IntKind.i64.wrap (y * W + x) = y * W + x := IntWalk.i64_in _ (by omega)
 have H := hide h
 clear h e hi
 go_enter Tryz.func69, Tryz.ntmps69
 go_wp2_with (go_at_call 78; refine (in_any _ _ _ _ _).mono ?_; rintro e w1 ⟨rfl, hb1⟩; rw [H.out]; obtain ⟨hc1, hf1⟩ := hb1.cells; have hz1 := hb1.size; (repeat (first | rw [World.size_alloc] at hz1 | rw [World.size_drew] at hz1)); have z1_0 : w.heap.size < w1.heap.size := (by omega); have z1_1 : w.heap.size + 1 < w1.heap.size := (by omega))
 go_ret2
 exact ⟨rfl, (by (with_reducible (repeat' (first | exact z_r _ | assumption | refine z_d ?_ | refine z_n ?_ _ | refine z_a ?_ _ | refine z_s ?_ ?_ _ | refine z_t ?_ (by assumption)))); all_goals (simp <;> omega))⟩
theorem gIndex_no (W H x y : Int) (w : World) (h : inB W H x y = false) : Calls Tryz.prog 69 #[.agg #[.int .i64 W, .int .i64 H], .agg #[.int .i64 x, .int .i64 y]] w fun e w' => e = .returned (.tuple #[.int .i64 0, .int .i64 10]) ∧ Ext w w' := by
 have H := hide h
 clear h
 go_enter Tryz.func69, Tryz.ntmps69
 go_wp2_with (go_at_call 78; refine (in_any _ _ _ _ _).mono ?_; rintro e w1 ⟨rfl, hb1⟩; rw [H.out]; obtain ⟨hc1, hf1⟩ := hb1.cells; have hz1 := hb1.size; (repeat (first | rw [World.size_alloc] at hz1 | rw [World.size_drew] at hz1)); have z1_0 : w.heap.size < w1.heap.size := (by omega); have z1_1 : w.heap.size + 1 < w1.heap.size := (by omega))
 go_ret2
 exact ⟨rfl, (by (with_reducible (repeat' (first | exact z_r _ | assumption | refine z_d ?_ | refine z_n ?_ _ | refine z_a ?_ _ | refine z_s ?_ ?_ _ | refine z_t ?_ (by assumption)))); all_goals (simp <;> omega))⟩

/-- What Update comes to. -/
def Upd (w : World) (p : Spot) (R : Nat → Prop) (W H s : Int) (l : List Int) (W' H' : Int) (l' : List Int) (cs : List Cell) (e : Ending) (w' : World) : Prop :=
 (updE W H l W' H' l' cs ≠ 0 ∧ e = .returned (.tuple #[.slice none 0 0, .int .i64 (updE W H l W' H' l' cs)]) ∧ Ext w w') ∨
 (updE W H l W' H' l' cs = 0 ∧ ∃ v p' R', e = .returned (.tuple #[v, .int .i64 0]) ∧ Own intE w' w.heap.size 3 v (toldU W H s l l' cs (cnt W H s).toNat) ∧ WorldAt w' p' R' W H s l' ∧ p'.b = p.b ∧ (∀ k, p'.F k ↔ p.F k) ∧ Touch p.F w w' ∧ ∀ k, R' k → R k ∨ w.heap.size ≤ k)

theorem updE_chk {W H : Int} {l : List Int} {W' H' : Int} {l' : List Int} {cs : List Cell} (h : checkE W' H' l'.length ≠ 0) : updE W H l W' H' l' cs = checkE W' H' l'.length := by
 unfold updE; rw [if_neg h]
theorem updE_size {W H : Int} {l : List Int} {W' H' : Int} {l' : List Int} {cs : List Cell} (h : checkE W' H' l'.length = 0) (h2 : ¬ (W' = W ∧ H' = H)) : updE W H l W' H' l' cs = 10 := by
 unfold updE; rw [if_pos h, if_neg h2]
theorem updE_off {W H : Int} {l l' : List Int} {cs : List Cell} (h : checkE W H l'.length = 0) (h2 : (cs.all fun c => inB W H c.1 c.2) = false) : updE W H l W H l' cs = 10 := by
 unfold updE; rw [if_pos h, if_pos ⟨rfl, rfl⟩, if_neg (by rw [h2]; simp)]
theorem updE_arg {W H : Int} {l l' : List Int} {cs : List Cell} (h : checkE W H l'.length = 0) (h2 : (cs.all fun c => inB W H c.1 c.2) = true) (h3 : keptB W l l' cs = false) : updE W H l W H l' cs = 1 := by
 unfold updE; rw [if_pos h, if_pos ⟨rfl, rfl⟩, if_pos h2, if_neg (by rw [h3]; simp)]
theorem updE_ok {W H : Int} {l l' : List Int} {cs : List Cell} (h : checkE W H l'.length = 0) (h2 : (cs.all fun c => inB W H c.1 c.2) = true) (h3 : keptB W l l' cs = true) : updE W H l W H l' cs = 0 := by
 unfold updE; rw [if_pos h, if_pos ⟨rfl, rfl⟩, if_pos h2, if_pos h3]

theorem Stand.recost {w : World} {p : Spot} {R R' : Nat → Prop} {W H s : Int} {l l' : List Int} {G : Int → Int → Option (List (Cell × Cell))} {T : List Tab} (h : Stand w p R W H s l G T) (g' : Good W H s l') {sa : Option Addr} {sc : Nat} (oc : Own u16G w 0 83 (.slice sa l'.length sc) l')
  (hR : ∀ k, R k → R' k) (hc : InR R' (.slice sa l'.length sc)) (hl : ∀ k, R' k → k < w.heap.size) (ha : ∀ k, R' k → ¬ p.F k) :
  Stand (((w.setCell ⟨p.b, 0, none⟩ (.int .i64 W)).setCell ⟨p.b, 1, none⟩ (.int .i64 H)).setCell ⟨p.b, 2, none⟩ (.slice sa l'.length sc)) ⟨p.b, p.m, p.tb, sa, sc, p.tc⟩ R' W H s l' G T := by
 have tt : Touch (fun j => j = p.b) w (((w.setCell ⟨p.b, 0, none⟩ (.int .i64 W)).setCell ⟨p.b, 1, none⟩ (.int .i64 H)).setCell ⟨p.b, 2, none⟩ (.slice sa l'.length sc)) :=
  (((Touch.refl (fun j => j = p.b) w).setCell (p := ⟨p.b, 0, none⟩) (.inl rfl) _).setCell (p := ⟨p.b, 1, none⟩) (.inl rfl) _).setCell (p := ⟨p.b, 2, none⟩) (.inl rfl) _
 have hbm := h.bm
 have hbt := h.bt
 have hRn : ∀ k, R' k → ¬ k = p.b := fun k hk e => ha k hk (.inl e)
 refine ⟨g', ?_, oc.touch tt (fun k hk => hRn k (hc k hk)), hc, (h.gates.mono hR).touch tt (fun e => hbm e.symm) hRn, ?_, h.num, fun k hk => Nat.lt_of_lt_of_le (hl k hk) tt.size, ha⟩
 ·have b := (((h.blk.set_ 0 (.int .i64 W)).set_ 1 (.int .i64 H)).set_ 2 (.slice sa l'.length sc))
  exact b
 ·obtain ⟨ts, h1, h2⟩ := h.tabs
  exact ⟨ts, h1.touch tt (fun k hk e => by cases hk; exact hbt e.symm), (h2.mono hR).touch tt hRn⟩

theorem own_blk {g q n c : Nat} (h : (Value.slice (some ⟨g, 0, none⟩) n c).ownBlock = some q) : g = q := by simpa [Value.ownBlock] using h
theorem own_bool_frozen {w : World} {base n c g : Nat} {e : TypeId} {l : List Bool} (h : Own boolE w base e (.slice (some ⟨g, 0, none⟩) n c) l) (j : Nat) : w.frozen? ⟨g, j, none⟩ = false := by
 obtain ⟨a', c', en⟩ := h.slice
 have en' : n = l.length := by injection en
 clear en
 subst en'
 have h' : w.ownsRow base e 1 (.slice (some ⟨g, 0, none⟩) l.length c) l.length (l.flatMap boolE.cells) := h
 exact h'.frozenAt j
theorem bool_turn {w : World} {base g n c : Nat} {e : TypeId} {l : List Bool} (h : Own boolE w base e (.slice (some ⟨g, 0, none⟩) n c) l) {i : Nat} (hi : i < l.length) (x : Bool) : Own boolE (w.setCell ⟨g, i, none⟩ (.bool x)) base e (.slice (some ⟨g, 0, none⟩) n c) (l.set i x) := by
 have := Own.turn (E := boolE) h hi x
 rw [show i * boolE.size = i from Nat.mul_one i] at this
 exact this
theorem touch1 (w : World) (g i : Nat) (u : Value) : Touch (fun j => j = g) w (w.setCell ⟨g, i, none⟩ u) := (Touch.refl (fun j => j = g) w).setCell (p := ⟨g, i, none⟩) (.inl rfl) u

set_option maxRecDepth 100000 in
theorem upd_chk {w : World} {b : Nat} (W' H' : Int) (a : Option Addr) (n c : Nat) (ca : Option Addr) (m cc : Nat) (he : checkE W' H' n ≠ 0) :
  Calls Tryz.prog 22 #[.pointer (some ⟨b, 0, none⟩), .agg #[.int .i64 W', .int .i64 H', .slice a n c], .slice ca m cc] w fun e w' => e = .returned (.tuple #[.slice none 0 0, .int .i64 (checkE W' H' n)]) ∧ Ext w w' := by
 have HC := hide (fun (w' : World) => gCheck_any W' H' a n c w')
 generalize checkE W' H' n = er at *
 have hb : (er != 0) = true := by simpa using he
 clear he
 go_enter Tryz.func22, Tryz.ntmps22
 go_wp2_with (go_at_call 55; refine (HC.out _).mono ?_; rintro e w3 ⟨rfl, hb3⟩)
 go_ret2
 exact ⟨rfl, (by (with_reducible (repeat' (first | exact z_r _ | assumption | refine z_d ?_ | refine z_n ?_ _ | refine z_a ?_ _ | refine z_s ?_ ?_ _ | refine z_t ?_ (by assumption)))); all_goals (simp <;> omega))⟩

set_option maxRecDepth 100000 in
theorem upd_size {w : World} {b : Nat} (W H W' H' : Int) (a : Option Addr) (n c : Nat) (ca : Option Addr) (m cc : Nat) (he : checkE W' H' n = 0) (hs : ¬ (W' = W ∧ H' = H)) (b0 : w.cell? ⟨b, 0, none⟩ = some (.int .i64 W)) (b1 : w.cell? ⟨b, 1, none⟩ = some (.int .i64 H)) :
  Calls Tryz.prog 22 #[.pointer (some ⟨b, 0, none⟩), .agg #[.int .i64 W', .int .i64 H', .slice a n c], .slice ca m cc] w fun e w' => e = .returned (.tuple #[.slice none 0 0, .int .i64 10]) ∧ Ext w w' := by
 have HC := hide (fun (w' : World) => gCheck_any W' H' a n c w')
 rw [he] at HC
 have HE := hide (fun (w : World) => eq_size W' H' W H w)
 have zb := World.block_lt_of_cell? w _ b0
 simp only at zb
 have hd : (W' == W && H' == H) = false := by
  rw [Bool.eq_false_iff]
  intro h
  simp at h
  exact hs h
 rw [hd] at HE
 clear he hs hd
 go_enter Tryz.func22, Tryz.ntmps22
 go_wp2_with (go_at_call 55; refine (HC.out _).mono ?_; rintro e w3 ⟨rfl, hb3⟩; obtain ⟨hc3, hf3⟩ := hb3.cells; have hz3 := hb3.size; (repeat (first | rw [World.size_alloc] at hz3 | rw [World.size_drew] at hz3)); have z3_0 : w.heap.size < w3.heap.size := (by omega))
 have he := HE.out
 go_quiet (fail)
 go_wp2_with fail
 go_ret2
 exact ⟨rfl, (by (with_reducible (repeat' (first | exact z_r _ | assumption | refine z_d ?_ | refine z_n ?_ _ | refine z_a ?_ _ | refine z_s ?_ ?_ _ | refine z_t ?_ (by assumption)))); all_goals (simp <;> omega))⟩

set_option maxRecDepth 100000 in
set_option maxHeartbeats 2000000 in
theorem upd_any {w : World} {p : Spot} {R : Nat → Prop} {W H s : Int} {l : List Int} (h : WorldAt w p R W H s l) {a : Option Addr} {l' : List Int} (c : Nat) (hr : Row16 w a l') (hu : U16s l') {ca : Option Addr} {cs : List Cell} (cc : Nat) (hc : RowC w ca cs) (hm : cs.length ≤ 1000000)
  (hok : checkE W H l'.length = 0) (hs : (gatesA W H s l').length ≤ 50000) :
  Calls Tryz.prog 22 #[.pointer (some ⟨p.b, 0, none⟩), .agg #[.int .i64 W, .int .i64 H, .slice a l'.length c], .slice ca cs.length cc] w (Upd w p R W H s l W H l' cs) := by
 obtain ⟨G, T, hst, hfull⟩ := h
 have ht := hst.good.right
 have HGD := hide hst.good
 have HGD' := hide (show Good W H s l' from ⟨hok, ht, hu⟩)
 have HST := hide hst
 have HFL := hide hfull
 have HS := hide hs
 have HR := hide hr
 have HC := hide hc
 have HOK := hide hok
 have bcn := hst.good.cnt
 have hlen := HGD'.out.len
 obtain ⟨N, hN⟩ : ∃ N : Nat, (cnt W H s).toNat = N := ⟨_, rfl⟩
 have HN := hide (show cnt W H s = (N : Int) by omega)
 have hN1 : 1 ≤ N := by omega
 have hN2 : N ≤ 65536 := by omega
 have HNT := hide (show T.length = N by have := hst.num; have := HN.out; omega)
 have HLL := hide (show l.length = l'.length by have h1 := (checkE_ok.1 hok).2; have h2 := (checkE_ok.1 hst.good.ok).2; omega)
 have HW := hide ((checkE_ok.1 hok).2)
 have HO := hide (fun (w' : World) (hx : Ext w w') => rdOwn_any (w := w') W H c (by omega) (hr.ext hx))
 have HCK := hide (fun (w' : World) => gCheck_any W H a l'.length c w')
 rw [hok] at HCK
 have heq := fun w => eq_size W H W H w
 simp only [beq_self_eq_true, Bool.and_self] at heq
 have B := hide hst.blk
 unfold worldCells at B
 rw [HLL.out, HNT.out] at B
 have hzb := hst.foot (k := p.b) (.inl rfl)
 have hzm := hst.foot (k := p.m) (.inr (.inl rfl))
 have hzt := hst.foot (k := p.tb) (.inr (.inr rfl))
 obtain ⟨n, hn⟩ : ∃ z, l'.length = z := ⟨_, rfl⟩
 obtain ⟨m, hmm⟩ : ∃ z, cs.length = z := ⟨_, rfl⟩
 have HL := hide hn
 have HM := hide hmm
 rw [hn] at hlen B HCK HO
 rw [hmm] at hm
 rw [hn, hmm]
 have b0 := B.out.at 0 rfl; have b1 := B.out.at 1 rfl; have b2 := B.out.at 2 rfl; have b3 := B.out.at 3 rfl; have b4 := B.out.at 4 rfl; have b5 := B.out.at 5 rfl; have b6 := B.out.at 6 rfl; have b7 := B.out.at 7 rfl; have bz := B.out.lt
 clear hst hfull hs hr hc hok bcn hN hn hmm hu
 go_enter Tryz.func22, Tryz.ntmps22
 go_wp2_with (go_at_call 55; refine (HCK.out _).mono ?_; rintro e w3 ⟨rfl, hb3⟩; obtain ⟨hc3, hf3⟩ := hb3.cells; have hz3 := hb3.size; (repeat (first | rw [World.size_alloc] at hz3 | rw [World.size_drew] at hz3)); have z3_0 : w.heap.size < w3.heap.size := (by omega))
 go_quiet (fail)
 have hbx : Blk w3 w.heap.size 26 #[.int .i64 W, .int .i64 H, .slice a n c] := by refine Blk.ext ?_ hb3; exact Blk.new_ rfl
 obtain ⟨w4, hw4⟩ : ∃ z, z = w3.drewN nq := ⟨_, rfl⟩
 have BX := hide (show Blk w4 w.heap.size 26 #[.int .i64 W, .int .i64 H, .slice a n c] by rw [hw4]; exact hbx)
 have X4 := hide (show Ext w w4 by rw [hw4]; exact (by (with_reducible (repeat' (first | exact z_r _ | assumption | refine z_d ?_ | refine z_n ?_ _ | refine z_a ?_ _ | refine z_s ?_ ?_ _ | refine z_t ?_ (by assumption)))); all_goals (simp <;> omega)))
 rw [← hw4]
 have hz4 : w.heap.size < w4.heap.size := BX.out.lt
 clear hbx hw4 hc3 hf3 hz3 z3_0 hb3 b0 b1 b2 b3 b4 b5 b6 b7 bz
 have x0 := BX.out.at 0 rfl; have x1 := BX.out.at 1 rfl; have x2 := BX.out.at 2 rfl; have xz := BX.out.lt
 go_wp2_with (at_make; refine wpList_make_one boolE T_bools false rfl rfl rfl rfl _ _ rfl w4.heap.size n rfl rfl (by omega) (by decide) (Nat.le_refl _) ?_)
 intro gm w5 hgm o5 x5
 have hgm1 : w4.heap.size ≤ gm := by omega
 have hgm2 : gm < w5.heap.size := (own_lt o5 (k := gm) rfl).2
 have X5 := hide (X4.out.trans x5)
 have BX5 := hide (BX.out.ext x5)
 have O5 := hide (show Own boolE w5 w4.heap.size 4 (.slice (some ⟨gm, 0, none⟩) n n) (mrk (idxN W) n []) by rw [mrk_nil]; exact o5)
 have B5 := hide (B.out.ext X5.out)
 have b0 := B5.out.at 0 rfl; have b1 := B5.out.at 1 rfl; have b2 := B5.out.at 2 rfl; have b3 := B5.out.at 3 rfl; have b4 := B5.out.at 4 rfl; have b5 := B5.out.at 5 rfl; have b6 := B5.out.at 6 rfl; have b7 := B5.out.at 7 rfl; have bz := B5.out.lt
 have z45 := x5.size
 clear hgm o5 x5 x0 x1 x2 xz
 go_wp2_with fail
 refine (count_yes W H s _ ht).mono ?_
 rintro e w6 ⟨rfl, x6⟩
 rw [HN.out]
 clear b0 b1 b2 b3 b4 b5 b6 b7 bz
 go_wp2_with (at_make; refine wpList_make_one boolE T_bools false rfl rfl rfl rfl _ _ rfl w6.heap.size N rfl rfl (by omega) (by decide) (Nat.le_refl _) ?_)
 intro gt w7 hgt o7 x7
 have z56 := x6.size
 have hgt1 : w6.heap.size ≤ gt := by omega
 have hgt2 : gt < w7.heap.size := (own_lt o7 (k := gt) rfl).2
 have x57 := x6.trans x7
 have X7 := hide (X5.out.trans x57)
 have BX7 := hide (BX5.out.ext x57)
 have O7 := hide (O5.out.ext x57)
 have P7 := hide (show Own boolE w7 w4.heap.size 4 (.slice (some ⟨gt, 0, none⟩) N N) (mrk (idC W s) N []) by rw [mrk_nil]; exact o7.lower (by omega))
 have hne : gm ≠ gt := by omega
 clear hgt o7 x7 x6 x57 O5 BX5 X5 BX X4
 go_wp2_with fail
 go_loopw [46] (fun i wr => ∃ k : Nat, k ≤ m ∧ i = .int .i64 (k : Int) ∧ ((cs.take k).all fun c => inB W H c.1 c.2) = true ∧ Ext w wr ∧ Blk wr w.heap.size 26 #[.int .i64 W, .int .i64 H, .slice a n c] ∧ Own boolE wr w4.heap.size 4 (.slice (some ⟨gm, 0, none⟩) n n) (mrk (idxN W) n (cs.take k)) ∧ Own boolE wr w4.heap.size 4 (.slice (some ⟨gt, 0, none⟩) N N) (mrk (idC W s) N (cs.take k))) (fun i _ => m - (intOf i).toNat)
 case atStart => exact ⟨0, Nat.zero_le _, rfl, rfl, X7.out, BX7.out, O7.out, P7.out⟩
 case round =>
  obtain ⟨k, hk, rfl, hall, hx, hbx, ho, hp⟩ := hrel
  have HA := hide hall
  have XR := hide hx
  have BR := hide hbx
  have OM := hide ho
  have OT := hide hp
  have hzr := hx.size
  have hgmr := (own_lt ho (k := gm) rfl).2
  have hgtr := (own_lt hp (k := gt) rfl).2
  clear hall hx hbx ho hp X7 BX7 O7 P7
  by_cases hlt : k < m
  ·obtain ⟨q, hq⟩ : ∃ q, cs[k]? = some q := ⟨_, List.getElem?_eq_getElem (by rw [HM.out]; exact hlt)⟩
   obtain ⟨b, off, rfl, hb, hcc⟩ := HC.out (by rw [HM.out]; omega)
   obtain ⟨hkl, hql⟩ := List.getElem?_eq_some_iff.1 hq
   have h1 := hcc k hkl
   rw [hql] at h1
   have d0 := (XR.out.cell (p := ⟨b, off + k * 2, none⟩) hb).trans h1.1
   have d1 := (XR.out.cell (p := ⟨b, off + k * 2 + 1, none⟩) hb).trans h1.2
   have hbw : b < wr.heap.size := by omega
   have jk : (k : Int) < (m : Int) := by omega
   have HTK := hide (show cs.take (k + 1) = cs.take k ++ [q] by rw [List.take_add_one, hq]; rfl)
   have HQM := hide (List.mem_of_getElem? hq)
   obtain ⟨x, y⟩ := q
   clear hcc hkl hql h1 hq
   have x0 := BR.out.at 0 rfl; have x1 := BR.out.at 1 rfl; have x2 := BR.out.at 2 rfl; have xz := BR.out.lt
   cases hin : inB W H x y with
   | false =>
    have HIN := hide hin
    clear hin
    go_wp2_with (go_at_call 69; refine (gIndex_no W H x y _ HIN.out).mono ?_; rintro e w9 ⟨rfl, hb9⟩; obtain ⟨hc9, hf9⟩ := hb9.cells; have hz9 := hb9.size; (repeat (first | rw [World.size_alloc] at hz9 | rw [World.size_drew] at hz9)); have z9_0 : w.heap.size < w9.heap.size := (by omega))
    go_ret2
    have HE : updE W H l W H l' cs = 10 := updE_off HOK.out (by
     rw [Bool.eq_false_iff]
     intro h
     have := List.all_eq_true.1 h _ HQM.out
     have h2 := HIN.out
     simp only at this
     rw [h2] at this
     cases this)
    exact .inl ⟨by rw [HE]; decide, by rw [HE]; rfl, XR.out.trans (by (with_reducible (repeat' (first | exact z_r _ | assumption | refine z_d ?_ | refine z_n ?_ _ | refine z_a ?_ _ | refine z_s ?_ ?_ _ | refine z_t ?_ (by assumption)))); all_goals (simp <;> omega))⟩
   | true =>
    have HIN := hide hin
    clear hin
    go_wp2_with fail
    refine (gIndex_yes W H x y _ HIN.out).mono ?_
    rintro e w9 ⟨rfl, hb9⟩
    have hx9 : Ext wr w9 := (by (with_reducible (repeat' (first | exact z_r _ | assumption | refine z_d ?_ | refine z_n ?_ _ | refine z_a ?_ _ | refine z_s ?_ ?_ _ | refine z_t ?_ (by assumption)))); all_goals (simp <;> omega))
    have BT9 := hide (show Blk w9 wr.heap.size 69 #[.int .i64 x, .int .i64 y] from by refine Blk.ext ?_ hb9; exact Blk.new_ rfl)
    have X9 := hide (XR.out.trans hx9)
    have BR9 := hide (BR.out.ext hx9)
    have OM9 := hide (OM.out.ext hx9)
    have OT9 := hide (OT.out.ext hx9)
    have z9 := hx9.size
    have hixn : idxN W (x, y) < n := by rw [← HL.out]; exact idx_len HW.out HIN.out
    have HIX := hide hixn
    have HID := hide (idC_int ht HIN.out (s := s) (c := (x, y)))
    have hidn : idC W s (x, y) < N := by
     have h1 := (ofN_bd ht HIN.out).2
     have h2 := HID.out
     have h3 := HN.out
     simp only at h2
     omega
    have HIDN := hide hidn
    have HMK := hide (fun cs' => mrk_snoc (f := idxN W) (cs := cs') hixn)
    have HNK := hide (fun cs' => mrk_snoc (f := idC W s) (cs := cs') hidn)
    obtain ⟨ix, hix⟩ : ∃ z, idxN W (x, y) = z := ⟨_, rfl⟩
    rw [hix] at HIX hixn HMK ⊢
    have cm : ∃ bm, w9.cell? ⟨gm, ix, none⟩ = some (.bool bm) := ⟨_, own_bool_at OM9.out (mrk_at hixn)⟩
    obtain ⟨bm, cm⟩ := cm
    have fm := own_bool_frozen OM9.out ix
    have zgm : gm < w9.heap.size := by omega
    have jx : (ix : Int) < (n : Int) := by omega
    have X10 := hide (fun w' (tt : Touch (fun j => j = gm) w9 w') => (X9.out.of_below (tt.to_below X9.out.size (fun j e => by omega)) (Nat.le_refl _)))
    clear hb9 hx9 x0 x1 x2 xz hix d0 d1
    go_wp2_with fail
    obtain ⟨wc, hwc⟩ : ∃ z, z = w9.setCell ⟨gm, ix, none⟩ (.bool true) := ⟨_, rfl⟩
    have TC : Touch (fun j => j = gm) w9 wc := by rw [hwc]; exact touch1 w9 gm ix _
    have OMC := hide (show Own boolE wc w4.heap.size 4 (.slice (some ⟨gm, 0, none⟩) n n) (mrk (idxN W) n (cs.take (k + 1))) by rw [hwc, HTK.out, HMK.out]; exact bool_turn OM9.out (by rw [mrk_len]; exact hixn) true)
    have OTC := hide (OT9.out.touch TC (fun q hq e => by have := own_blk hq; omega))
    have BRC := hide (BR9.out.touch TC (by omega))
    have BTC := hide (BT9.out.touch TC (by omega))
    have XC := hide (X10.out _ TC)
    have BPC := hide (B.out.ext XC.out)
    have zc := TC.size
    rw [← hwc]
    clear hwc TC cm fm OM9 OT9 BR9 BT9 X10 X9
    have t0 := BTC.out.at 0 rfl; have t1 := BTC.out.at 1 rfl; have tz := BTC.out.lt
    have b0 := BPC.out.at 0 rfl; have b1 := BPC.out.at 1 rfl; have b2 := BPC.out.at 2 rfl; have b3 := BPC.out.at 3 rfl; have b4 := BPC.out.at 4 rfl; have b5 := BPC.out.at 5 rfl; have b6 := BPC.out.at 6 rfl; have b7 := BPC.out.at 7 rfl; have bz := BPC.out.lt
    have HOF := hide (fun (w' : World) => of_yes W H s x y w' ht HIN.out)
    refine seqH_start (S := (fun W => (∀ b o, b < wc.heap.size → W.cell? ⟨b, o, none⟩ = wc.cell? ⟨b, o, none⟩) ∧ Ext wc W)) [(0, true), (1, true), (2, true), (3, true), (4, true), (5, false), (6, true), (7, true), (8, true), (9, true), (10, true)] (by kernel_rfl) (by kernel_rfl) (by kernel_rfl) (by decide) (fun _ _ d _ _ h => by cases d <;> exact h) (by first | with_reducible exact pr_start _ | exact pr_of (by (with_reducible (repeat' (first | exact z_r _ | assumption | refine z_d ?_ | refine z_n ?_ _ | refine z_a ?_ _ | refine z_s ?_ ?_ _ | refine z_t ?_ (by assumption)))); all_goals (simp <;> omega))) (fun hHeld => ?_)
    iterate 5 (apply SeqH.free; (· (simp only [z_0, z_1, z_2]; rfl)); (· first | exact Or.inr ⟨by rfl, rfl⟩ | (refine Or.inl ⟨by rfl, ?_⟩; intro w hSw; (try dsimp only at hSw); go_simp; try with_reducible rfl)); try simp only [Act.put, z_3, z_4, z_5])
    (apply SeqH.step; (· (simp only [z_0, z_1, z_2]; rfl)); intro K hK; go_simp; refine (HOF.out _).mono ?_; rintro e wd ⟨rfl, hbd⟩; rw [← HID.out]; go_wp2_with fail; refine hK.out _ _ (pr_of (by (with_reducible (repeat' (first | exact z_r _ | assumption | refine z_d ?_ | refine z_n ?_ _ | refine z_a ?_ _ | refine z_s ?_ ?_ _ | refine z_t ?_ (by assumption)))); all_goals (simp <;> omega))) (fun hHeld => ?_); clear hK K; try simp only [Act.put, z_3, z_4, z_5])
    iterate 5 (apply SeqH.free; (· (simp only [z_0, z_1, z_2]; rfl)); (· first | exact Or.inr ⟨by rfl, rfl⟩ | (refine Or.inl ⟨by rfl, ?_⟩; intro w hSw; (try dsimp only at hSw); go_simp; try with_reducible rfl)); try simp only [Act.put, z_3, z_4, z_5])
    refine SeqH.done ?_
    have XD := hide hHeld.2
    have OMD := hide (OMC.out.ext XD.out)
    have OTD := hide (OTC.out.ext XD.out)
    have BRD := hide (BRC.out.ext XD.out)
    have XXD := hide (XC.out.trans XD.out)
    have zd := XD.out.size
    obtain ⟨iy, hiy⟩ : ∃ z, idC W s (x, y) = z := ⟨_, rfl⟩
    rw [hiy] at HIDN hidn HNK ⊢
    have cm : ∃ bm, wd.cell? ⟨gt, iy, none⟩ = some (.bool bm) := ⟨_, own_bool_at OTD.out (mrk_at hidn)⟩
    obtain ⟨bt, cm⟩ := cm
    have fm := own_bool_frozen OTD.out iy
    have zgt : gt < wd.heap.size := by omega
    have jy : (iy : Int) < (N : Int) := by omega
    clear hHeld hbd t0 t1 tz b0 b1 b2 b3 b4 b5 b6 b7 bz hiy OMC OTC BRC BTC XC BPC
    go_wp2_with fail
    obtain ⟨we, hwe⟩ : ∃ z, z = wd.setCell ⟨gt, iy, none⟩ (.bool true) := ⟨_, rfl⟩
    have TE : Touch (fun j => j = gt) wd we := by rw [hwe]; exact touch1 wd gt iy _
    have OTE := hide (show Own boolE we w4.heap.size 4 (.slice (some ⟨gt, 0, none⟩) N N) (mrk (idC W s) N (cs.take (k + 1))) by rw [hwe, HTK.out, HNK.out]; exact bool_turn OTD.out (by rw [mrk_len]; exact hidn) true)
    have OME := hide (OMD.out.touch TE (fun q hq e => by have := own_blk hq; omega))
    have BRE := hide (BRD.out.touch TE (by omega))
    have XE := hide (XXD.out.of_below (TE.to_below XXD.out.size (fun j e => by omega)) (Nat.le_refl _))
    rw [← hwe]
    clear hwe TE cm fm OMD OTD BRD XXD XD
    go_roundw
    case rel => exact ⟨k + 1, by omega, by go_num, by rw [HTK.out, List.all_append, HA.out]; simp [HIN.out], XE.out, BRE.out, OME.out, OTE.out⟩
    case measure => simp [intOf]; omega
  ·obtain rfl : m = k := by omega
   have HTK : Hid (cs.take m = cs) := hide (List.take_of_length_le (by rw [HM.out]; exact Nat.le_refl _))
   rw [HTK.out] at HA OM OT
   have x0 := BR.out.at 0 rfl; have x1 := BR.out.at 1 rfl; have x2 := BR.out.at 2 rfl; have xz := BR.out.lt
   go_wp2_with fail
   clear x0 x1 x2 xz
   go_loop [78] (fun i => ∃ j : Nat, j ≤ n ∧ i = .int .i64 (j : Int) ∧ ∀ q, q < j → (decide (l'.getD q 0 = l.getD q 0) || cs.any fun c => idxN W c == q) = true) (fun i => n - (intOf i).toNat)
   case atStart => exact ⟨0, Nat.zero_le _, rfl, fun q hq => absurd hq (Nat.not_lt_zero q)⟩
   case round =>
    obtain ⟨j, hj, rfl, hkp⟩ := hrel
    have KP := hide hkp
    clear hkp
    by_cases hltj : j < n
    ·have hj1 : j < l'.length := by rw [HL.out]; exact hltj
     have hj2 : j < l.length := by rw [HLL.out]; exact hj1
     obtain ⟨b, off, rfl, hb, hcc⟩ := HR.out (by omega)
     obtain ⟨b2, off2, hpc, hb2, hcc2⟩ := HST.out.row (by omega)
     have d0 := (XR.out.cell (p := ⟨b, off + j, none⟩) hb).trans (hcc j hj1)
     have d1 := (XR.out.cell (p := ⟨b2, off2 + j, none⟩) hb2).trans (hcc2 j hj2)
     have BPR := hide (B.out.ext XR.out)
     have e2 := BPR.out.at 2 rfl
     have ez := BPR.out.lt
     rw [hpc] at e2
     have dm := own_bool_at OM.out (mrk_at (f := idxN W) (cs := cs) hltj)
     have z0 : b < wr.heap.size := by omega
     have z1 : b2 < wr.heap.size := by omega
     have z2 : gm < wr.heap.size := hgmr
     have jj : (j : Int) < (n : Int) := by omega
     have g1 : l'.getD j 0 = l'[j] := by simp [List.getD_eq_getElem?_getD, hj1]
     have g2 : l.getD j 0 = l[j] := by simp [List.getD_eq_getElem?_getD, hj2]
     obtain ⟨x, hx⟩ : ∃ x, l'[j] = x := ⟨_, rfl⟩
     obtain ⟨y, hy⟩ : ∃ y, l[j] = y := ⟨_, rfl⟩
     rw [hx] at d0 g1
     rw [hy] at d1 g2
     have G1 := hide g1
     have G2 := hide g2
     obtain ⟨mb, hmb⟩ : ∃ mb, (cs.any fun c => idxN W c == j) = mb := ⟨_, rfl⟩
     rw [hmb] at dm
     have HMB := hide hmb
     clear hcc hcc2 hpc hj1 hj2 g1 g2 hx hy hmb
     by_cases hxy : x = y
     ·subst hxy
      go_wp2_with fail
      go_round
      case rel => exact ⟨j + 1, by omega, by go_num, fun q hq => by
        by_cases e : q = j
        ·subst e; rw [G1.out, G2.out]; simp
        ·exact KP.out q (by omega)⟩
      case measure => simp [intOf]; omega
     ·have hne : (x != y) = true := by simpa using hxy
      have HXY := hide hxy
      clear hxy
      cases mb with
      | true =>
       go_wp2_with fail
       go_round
       case rel => exact ⟨j + 1, by omega, by go_num, fun q hq => by
         by_cases e : q = j
         ·subst e; rw [HMB.out]; simp
         ·exact KP.out q (by omega)⟩
       case measure => simp [intOf]; omega
      | false =>
       go_wp2_with fail
       go_ret2
       have HE : updE W H l W H l' cs = 1 := updE_arg HOK.out HA.out (by
        rw [Bool.eq_false_iff]
        intro h
        unfold keptB at h
        have h2 := List.all_eq_true.1 h j (List.mem_range.2 (by rw [HL.out]; exact hltj))
        rw [G1.out, G2.out, HMB.out] at h2
        simp at h2
        exact HXY.out h2)
       exact .inl ⟨by rw [HE]; decide, by rw [HE]; rfl, XR.out⟩
    ·obtain rfl : n = j := by omega
     have HKB := hide (show keptB W l l' cs = true by
      unfold keptB
      exact List.all_eq_true.2 fun q hq => KP.out q (by have := List.mem_range.1 hq; rw [HL.out] at this; exact this))
     have x0 := BR.out.at 0 rfl; have x1 := BR.out.at 1 rfl; have x2 := BR.out.at 2 rfl; have xz := BR.out.lt
     go_wp2_with fail
     refine (HO.out _ XR.out).mono ?_
     rintro e wo ⟨sa, sc, rfl, xo, oo⟩
     rw [HL.out] at oo ⊢
     have XO := hide (XR.out.trans xo)
     have STO := HST.out.ext XO.out
     have BPO := hide (B.out.ext XO.out)
     have OTO := hide (OT.out.ext xo)
     have zo := xo.size
     have b0 := BPO.out.at 0 rfl
     have b1 := BPO.out.at 1 rfl
     have b2 := BPO.out.at 2 rfl
     have bz := BPO.out.lt
     have f0 := BPO.out.frozen 0
     have f1 := BPO.out.frozen 1
     have f2 := BPO.out.frozen 2
     have STR := hide (show Stand (((wo.setCell ⟨p.b, 0, none⟩ (.int .i64 W)).setCell ⟨p.b, 1, none⟩ (.int .i64 H)).setCell ⟨p.b, 2, none⟩ (.slice sa n sc)) ⟨p.b, p.m, p.tb, sa, sc, p.tc⟩ (fun q => R q ∨ (wr.heap.size ≤ q ∧ q < wo.heap.size)) W H s l' G T by
      rw [← HL.out]
      rw [← HL.out] at oo
      exact STO.recost HGD'.out (oo.lower (Nat.zero_le _)) (fun q hq => .inl hq) (fun q hq => .inr (own_lt oo hq)) (fun q hq => hq.elim (fun h => STO.lt q h) (fun h => h.2)) (fun q hq hf => hq.elim (fun h => STO.apart q h hf) (fun h => by have := HST.out.foot hf; omega)))
     have TP := hide (fun (w' : World) (e : w' = ((wo.setCell ⟨p.b, 0, none⟩ (.int .i64 W)).setCell ⟨p.b, 1, none⟩ (.int .i64 H)).setCell ⟨p.b, 2, none⟩ (.slice sa n sc)) => (show Touch (fun j => j = p.b) wo w' by
      rw [e]
      exact (((Touch.refl (fun j => j = p.b) wo).setCell (p := ⟨p.b, 0, none⟩) (.inl rfl) _).setCell (p := ⟨p.b, 1, none⟩) (.inl rfl) _).setCell (p := ⟨p.b, 2, none⟩) (.inl rfl) _))
     have HUN := hide (upd_near HGD.out HGD'.out HN.out HA.out HKB.out HFL.out.gates)
     have HUT := hide (upd_tabs HGD.out HGD'.out HN.out HNT.out HA.out HKB.out HFL.out.tabs)
     clear xo oo STO x0 x1 x2 xz
     go_wp2_with fail
     obtain ⟨wp, hwp⟩ : ∃ z, z = ((wo.setCell ⟨p.b, 0, none⟩ (.int .i64 W)).setCell ⟨p.b, 1, none⟩ (.int .i64 H)).setCell ⟨p.b, 2, none⟩ (.slice sa n sc) := ⟨_, rfl⟩
     have TPP := hide (TP.out wp hwp)
     rw [← hwp] at STR ⊢
     have OTP := OTO.out.touch TPP.out (fun q hq e => by have := own_blk hq; omega)
     have HB := hide (build_any STR.out HNT.out (mrk_len (idC W s) N cs) (OTP.lower (Nat.zero_le _)) (fun hf => by rcases hf with h | h | h <;> simp only at h <;> omega) HUN.out HS.out)
     have zp := TPP.out.size
     clear hwp OTP b0 b1 b2 bz f0 f1 f2 TP
     refine (HB.out).mono ?_
     rintro e w11 ⟨v, R', G', T', rfl, ho, hst, hgf, htt, tt, hrr⟩
     obtain ⟨va, vc, rfl⟩ := ho.slice
     have HO2 := hide ho
     have HST2 := hide hst
     have HGF2 := hide hgf
     have HTT2 := hide htt
     have TT2 := hide tt
     have HRR2 := hide hrr
     clear ho hst hgf htt tt hrr HB
     go_wp2_with fail
     go_ret2
     refine .inr ⟨updE_ok HOK.out HA.out HKB.out, _, _, R', rfl, ?_, ⟨G', T', HST2.out, HGF2.out, fun i hi => ?_⟩, rfl, fun k => Iff.rfl, ((Touch.of_ext XO.out).trans (TPP.out.mono (fun j _ e => .inl e))).trans TT2.out, fun k hk => (HRR2.out k hk).elim (fun h => h.elim .inl (fun h => .inr (by omega))) (fun h => .inr (by omega))⟩
     ·have h := HO2.out.lower (base' := w.heap.size) (by omega)
      rw [HNT.out, toldU_eq HUT.out.1] at h
      rw [HNT.out, toldU_eq HUT.out.1, show (cnt W H s).toNat = N by have := HN.out; omega]
      exact h
     ·have hiN : i < N := by have := HST2.out.num; have := HN.out; omega
      rw [HTT2.out i (by rw [HNT.out]; exact hiN), HUT.out.2 i hiN]

/-- Tables in memory. -/
def TabsAt (w : World) (g N c : Nat) (T : List Tab) : Prop := ∃ (R : Nat → Prop) (ts : List (Sl × Sl)), Own tabE w 0 74 (.slice (some ⟨g, 0, none⟩) N c) ts ∧ TabsR R w ts T
theorem TabsAt.ext {w w' : World} {g N c : Nat} {T : List Tab} (h : TabsAt w g N c T) (x : Ext w w') : TabsAt w' g N c T := by
 obtain ⟨R, ts, h1, h2⟩ := h
 exact ⟨R, ts, h1.ext x, h2.touch (Touch.of_ext (S := fun _ => False) x) (fun _ _ x => x)⟩
theorem TabsAt.at {w : World} {g N c k : Nat} {T : List Tab} {t : Tab} (h : TabsAt w g N c T) (ht : T[k]? = some t) :
  ∃ a n b m, w.cell? ⟨g, k * 2, none⟩ = some (.slice a t.1.length n) ∧ w.cell? ⟨g, k * 2 + 1, none⟩ = some (.slice b t.2.length m) ∧ RowC w a t.1 ∧ RowsU w b t.2 := by
 obtain ⟨R, ts, h1, h2, h3⟩ := h
 obtain ⟨q, hq⟩ : ∃ q, ts[k]? = some q := ⟨_, List.getElem?_eq_getElem (by rw [h2]; exact (List.getElem?_eq_some_iff.1 ht).1)⟩
 have CA := own_tab_at h1 hq
 obtain ⟨⟨o, _⟩, r⟩ := h3 k q t hq ht
 obtain ⟨⟨q1, q2, q3⟩, ⟨q4, q5, q6⟩⟩ := q
 simp only [slV] at CA o r
 obtain ⟨e1, rc⟩ := Reads.rowC o.reads
 have ra := r.at0
 obtain ⟨_, _, e2, _⟩ := rowsU_of ra
 have ru := ra.u
 have e3 : q5 = t.2.length := by injection e2
 subst e1 e3
 exact ⟨q1, q3, q4, q6, CA.1, CA.2, rc, ru⟩

theorem TabsR.snoc {R : Nat → Prop} {w : World} {ts : List (Sl × Sl)} {T : List Tab} {s : Sl × Sl} {t : Tab} (h : TabsR R w ts T) (hs : TabR R w s t) : TabsR R w (ts ++ [s]) (T ++ [t]) := by
 refine ⟨by simp [h.1], fun i x y hx hy => ?_⟩
 by_cases hi : i < ts.length
 ·rw [List.getElem?_append_left hi] at hx
  rw [List.getElem?_append_left (by rw [← h.1]; exact hi)] at hy
  exact h.2 i x y hx hy
 ·rw [List.getElem?_append_right (by omega)] at hx
  rw [List.getElem?_append_right (by rw [← h.1]; omega)] at hy
  have h0 : i - ts.length = 0 := by
   have := (List.getElem?_eq_some_iff.1 hx).1
   simp at this
   omega
  rw [h0] at hx
  rw [← h.1, h0] at hy
  simp at hx hy
  subst hx hy
  exact hs
end Go.Proofs.YtkioohhjjdlhiaaGreat
