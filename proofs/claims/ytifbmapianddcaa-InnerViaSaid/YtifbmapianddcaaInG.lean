/- Walk of Back, of layer 13. -/
import Derived.Test.YtifbmapianddcaaInF
set_option linter.all false
set_option linter.unusedVariables false
set_option linter.unusedSimpArgs false
namespace Go.Proofs.Ytifbmapianddcaa
open Go.RowKit

theorem u64_head {t : Int} {r : List Int} {w : World} {base g n c : Nat} (h : Own u64E w base 38 (.slice (some ⟨g, 0, none⟩) n c) (t :: r)) : w.cell? ⟨g, 0, none⟩ = some (.int .u64 t) := by
  have h1 := (Reads.cells h.reads).2.2 0 t rfl 0 (.int .u64 t) rfl
  simpa using h1

set_option maxRecDepth 100000 in
theorem iBack1_any {w : World} {W H : Int} {a : Option Addr} {l : List Int} {bx byy bw bh : Int} (L : LandP W H l bx byy bw bh) (c : Nat) {pb tb : Nat} (q p : Cell) (hq : hasB bx byy bw bh q.1 q.2 = true) (hp : hasB bx byy bw bh p.1 p.2 = true) (hr : Row16 w a l)
    (hP : PlaceAt w pb W H a l.length c bx byy bw bh) (h0 : w.cell? ⟨tb, 0, none⟩ = some (.int .i64 p.1)) (h1 : w.cell? ⟨tb, 1, none⟩ = some (.int .i64 p.2)) :
    Calls Try.prog 81 (#[.agg #[.int .i64 q.1, .int .i64 q.2]] ++ #[.pointer (some ⟨pb, 0, none⟩), .pointer (some ⟨tb, 0, none⟩)]) w fun e w' => e = .returned (.int .u64 (farD L q (idxN W p))) ∧ Ext w w' := by
  have HF := hide (fun (w' : World) (b : Nat) (hx : Ext w w') (hc : RowC w' (some ⟨b, 0, none⟩) [p]) => iFar_ok (w := w') L c q hq (cs := [p]) 1 (fun z hz => by rw [List.mem_singleton.1 hz]; exact hp) (by simp) (hr.ext hx) hc)
  have b0 : w.cell? ⟨pb, 0, none⟩ = some (.int .i64 W) := Blk.at hP 0 rfl
  have b1 : w.cell? ⟨pb, 1, none⟩ = some (.int .i64 H) := Blk.at hP 1 rfl
  have b2 : w.cell? ⟨pb, 2, none⟩ = some (.slice a l.length c) := Blk.at hP 2 rfl
  have b3 : w.cell? ⟨pb, 3, none⟩ = some (.int .i64 bx) := Blk.at hP 3 rfl
  have b4 : w.cell? ⟨pb, 4, none⟩ = some (.int .i64 byy) := Blk.at hP 4 rfl
  have b5 : w.cell? ⟨pb, 5, none⟩ = some (.int .i64 bw) := Blk.at hP 5 rfl
  have b6 : w.cell? ⟨pb, 6, none⟩ = some (.int .i64 bh) := Blk.at hP 6 rfl
  have zp : pb < w.heap.size := Blk.lt hP
  have zq := World.block_lt_of_cell? w _ h0
  simp only at zq
  have hrow : rowD L [p] q = [farD L q (idxN W p)] := rfl
  rw [hrow] at HF
  obtain ⟨n, hnn⟩ : ∃ z, l.length = z := ⟨_, rfl⟩
  rw [hnn] at HF b2
  obtain ⟨x, y⟩ := q
  obtain ⟨px, py⟩ := p
  generalize farD L (x, y) (idxN W (px, py)) = d at *
  clear hq hp hr hP hnn hrow
  simp only [List.append_toArray, List.length_singleton] at *
  go_enter Try.func81, Try.ntmps81
  go_wp2_with fail
  refine (HF.out _ (w.heap.size + 1) (by (with_reducible (repeat' (first | exact Ext.refl _ | assumption | refine Ext.drew ?_ | refine Ext.drewN ?_ _ | refine Ext.alloc ?_ _ | refine Ext.setCell ?_ ?_ _ | refine Ext.trans ?_ (by assumption)))); all_goals (first | (simp; done) | (simp; omega))) (fun _ => ⟨w.heap.size + 1, 0, rfl, by simp, fun k hk => by
    obtain rfl : k = 0 := by simpa using hk
    exact ⟨by simp [go_sem], by simp [go_sem]⟩⟩)).mono ?_
  rintro e w1 ⟨sv, rfl, hb1, ho1⟩
  have hx1 : Ext w w1 := (by (with_reducible (repeat' (first | exact Ext.refl _ | assumption | refine Ext.drew ?_ | refine Ext.drewN ?_ _ | refine Ext.alloc ?_ _ | refine Ext.setCell ?_ ?_ _ | refine Ext.trans ?_ (by assumption)))); all_goals (first | (simp; done) | (simp; omega)))
  obtain ⟨g, gc, hg⟩ := own_u64 ho1 (by simp)
  obtain ⟨s1, s2, s3⟩ := sv
  simp only at hg ho1 ⊢
  injection hg with g1 g2 g3
  subst g1 g2 g3
  have hc := u64_head ho1
  have zg := (own_lt ho1 (k := g) rfl).2
  clear ho1 hb1
  simp only [List.length_singleton]
  go_wp2_with fail
  go_ret
  exact ⟨rfl, hx1⟩

set_option maxRecDepth 100000 in
theorem iBack_bad {w : World} {W H : Int} (a : Option Addr) {l : List Int} (c : Nat) (PW PH s id : Int) (ca : Option Addr) (cs : List Cell) (cc : Nat) (ra : Option Addr) (rn rc : Nat) (p : Cell) (hc : RowC w ca cs) (hl : cs.length ≤ 1000000) (hi : ∀ p ∈ cs, InI p.1 ∧ InI p.2) (he : toE W H l.length PW PH s id cs p ≠ 0) :
    Calls Try.prog 32 #[.agg #[.int .i64 W, .int .i64 H, .slice a l.length c], .agg #[.int .i64 PW, .int .i64 PH, .int .i64 s], .int .i64 id, .agg #[.slice ca cs.length cc, .slice ra rn rc], .agg #[.int .i64 p.1, .int .i64 p.2]] w fun e w' => e = .returned (.tuple #[.slice none 0 0, .int .i64 (toE W H l.length PW PH s id cs p)]) ∧ Ext w w' := by
  have HL := hide (fun (w' : World) (hx : Ext w w') => iLook_any (w := w') W H a l.length c PW PH s id ca cs cc (hc.ext hx) hl hi)
  obtain ⟨x, y⟩ := p
  obtain ⟨n, hn⟩ : ∃ z, l.length = z := ⟨_, rfl⟩
  rw [hn] at HL he ⊢
  by_cases h0 : innerE W H n PW PH s id cs = 0
  · have h1 : toE W H n PW PH s id cs (x, y) = lookE W H n (boxX W s id) (boxY W s id) (boxW W s id) (boxH W H s id) x y := by unfold toE; rw [if_pos h0]
    rw [h1] at he ⊢
    have HF := hide (fun (w' : World) => iFar_bad (w := w') W H a n c (boxX W s id) (boxY W s id) (boxW W s id) (boxH W H s id) x y none 0 0 he)
    rw [h0] at HL
    generalize lookE W H n (boxX W s id) (boxY W s id) (boxW W s id) (boxH W H s id) x y = er at *
    have hb : (er != 0) = true := by simpa using he
    obtain ⟨m, hm⟩ : ∃ z, cs.length = z := ⟨_, rfl⟩
    rw [hm] at HL ⊢
    clear hc hl hi h0 h1 he hm hn
    simp only
    go_enter Try.func32, Try.ntmps32
    go_wp2_with fail
    refine (HL.out _ (by (with_reducible (repeat' (first | exact Ext.refl _ | assumption | refine Ext.drew ?_ | refine Ext.drewN ?_ _ | refine Ext.alloc ?_ _ | refine Ext.setCell ?_ ?_ _ | refine Ext.trans ?_ (by assumption)))); all_goals (first | (simp; done) | (simp; omega)))).mono ?_
    rintro e w1 ⟨⟨v, rfl, hv⟩, hb1⟩
    obtain ⟨hc1, hf1⟩ := hb1.cells; have hz1 := hb1.size; (repeat (first | rw [World.size_alloc] at hz1 | rw [World.size_drew] at hz1)); have z1_0 : w.heap.size < w1.heap.size := (by omega); have z1_1 : w.heap.size + 1 < w1.heap.size := (by omega); have z1_2 : w.heap.size + 2 < w1.heap.size := (by omega); have z1_3 : w.heap.size + 3 < w1.heap.size := (by omega)
    rcases hv with ⟨h0, _⟩ | ⟨_, rfl⟩
    · exact absurd rfl h0
    · go_wp2_with fail
      refine (HF.out _).mono ?_
      rintro e w2 ⟨rfl, hb2⟩
      go_wp2_with fail
      go_ret2
      exact ⟨rfl, (by (with_reducible (repeat' (first | exact Ext.refl _ | assumption | refine Ext.drew ?_ | refine Ext.drewN ?_ _ | refine Ext.alloc ?_ _ | refine Ext.setCell ?_ ?_ _ | refine Ext.trans ?_ (by assumption)))); all_goals (first | (simp; done) | (simp; omega)))⟩
  · have h1 : toE W H n PW PH s id cs (x, y) = innerE W H n PW PH s id cs := by unfold toE; rw [if_neg h0]
    rw [h1] at he ⊢
    generalize innerE W H n PW PH s id cs = er at *
    have hb : (er != 0) = true := by simpa using he
    have HER := hide he
    obtain ⟨m, hm⟩ : ∃ z, cs.length = z := ⟨_, rfl⟩
    rw [hm] at HL ⊢
    clear hc hl hi he hm h0 h1 hn
    simp only
    go_enter Try.func32, Try.ntmps32
    go_wp2_with fail
    refine (HL.out _ (by (with_reducible (repeat' (first | exact Ext.refl _ | assumption | refine Ext.drew ?_ | refine Ext.drewN ?_ _ | refine Ext.alloc ?_ _ | refine Ext.setCell ?_ ?_ _ | refine Ext.trans ?_ (by assumption)))); all_goals (first | (simp; done) | (simp; omega)))).mono ?_
    rintro e w1 ⟨⟨v, rfl, hv⟩, hb1⟩
    rcases hv with ⟨_, x1, x2, a3, n3, c3, x4, x5, x6, x7, rfl⟩ | ⟨h0, _⟩
    · go_wp2_with fail
      go_ret2
      exact ⟨rfl, (by (with_reducible (repeat' (first | exact Ext.refl _ | assumption | refine Ext.drew ?_ | refine Ext.drewN ?_ _ | refine Ext.alloc ?_ _ | refine Ext.setCell ?_ ?_ _ | refine Ext.trans ?_ (by assumption)))); all_goals (first | (simp; done) | (simp; omega)))⟩
    · exact absurd h0 HER.out

set_option maxRecDepth 100000 in
theorem iBack_ok {w : World} {W H : Int} {a : Option Addr} {l : List Int} (c : Nat) {PW PH s id : Int} {ca : Option Addr} {cs : List Cell} (cc : Nat) (ra : Option Addr) (rn rc : Nat) {p : Cell} (hr : Row16 w a l) (hc : RowC w ca cs) (hl : cs.length ≤ 1000000) (hi : ∀ p ∈ cs, InI p.1 ∧ InI p.2) (he : toE W H l.length PW PH s id cs p = 0) (L : boxL W H s id l) :
    Calls Try.prog 32 #[.agg #[.int .i64 W, .int .i64 H, .slice a l.length c], .agg #[.int .i64 PW, .int .i64 PH, .int .i64 s], .int .i64 id, .agg #[.slice ca cs.length cc, .slice ra rn rc], .agg #[.int .i64 p.1, .int .i64 p.2]] w fun e w' => ∃ v, e = .returned (.tuple #[v, .int .i64 0]) ∧ Ext w w' ∧ Own u64E w' w.heap.size 38 v (cs.map (fun q => farD L q (idxN W p))) := by
  obtain ⟨h0, h1⟩ := toE_ok he
  obtain ⟨e1, e2, e3, e4, e5, e6⟩ := innerE_ok.1 h0
  have hok := cells_ok e4 e5 e6
  have HL := hide (fun (w' : World) (hx : Ext w w') => iLook_any (w := w') W H a l.length c PW PH s id ca cs cc (hc.ext hx) hl hi)
  rw [h0] at HL
  have hpp := (lookE_ok.1 h1).2.2.2
  have HF := hide (fun (w' : World) (hx : Ext w w') => iFar_ok (w := w') L c p hpp (ca := none) (cs := []) 0 (fun z hz => by cases hz) (by simp) (hr.ext hx) (fun h => by simp at h))
  have HB := hide (fun (w' : World) (pb tb : Nat) (hx : Ext w w') (hP : PlaceAt w' pb W H a l.length c (boxX W s id) (boxY W s id) (boxW W s id) (boxH W H s id)) (h0 : w'.cell? ⟨tb, 0, none⟩ = some (.int .i64 p.1)) (h1 : w'.cell? ⟨tb, 1, none⟩ = some (.int .i64 p.2)) (q : Cell) (hq : q ∈ cs) => iBack1_any (w := w') (pb := pb) (tb := tb) L c q p (hok q hq) hpp (hr.ext hx) hP h0 h1)
  have HCO := hide (fun (w' : World) (hx : Ext w w') => hc.ext hx)
  obtain ⟨x, y⟩ := p
  obtain ⟨n, hn⟩ : ∃ z, l.length = z := ⟨_, rfl⟩
  rw [hn] at HL HF HB ⊢
  obtain ⟨m, hm⟩ : ∃ z, cs.length = z := ⟨_, rfl⟩
  have HM := hide hm
  rw [hm] at HL hl ⊢
  clear hc hi he hr hok hn hm e1 e2 e3 e4 e5 e6 h0 h1 hpp
  simp only [List.length_nil] at HF HB ⊢
  go_enter Try.func32, Try.ntmps32
  go_wp2_with fail
  refine (HL.out _ (by (with_reducible (repeat' (first | exact Ext.refl _ | assumption | refine Ext.drew ?_ | refine Ext.drewN ?_ _ | refine Ext.alloc ?_ _ | refine Ext.setCell ?_ ?_ _ | refine Ext.trans ?_ (by assumption)))); all_goals (first | (simp; done) | (simp; omega)))).mono ?_
  rintro e w1 ⟨⟨v, rfl, hv⟩, hb1⟩
  have BQ1 : Hid (Blk w1 (w.heap.size + 2) 57 #[.slice ca m cc, .slice ra rn rc]) := hide (by refine Blk.ext ?_ hb1; (repeat' (first | exact Blk.new_ (by simp) | refine Blk.drew ?_ | refine Blk.over ?_)))
  have BT1 : Hid (Blk w1 (w.heap.size + 3) 28 #[.int .i64 x, .int .i64 y]) := hide (by refine Blk.ext ?_ hb1; (repeat' (first | exact Blk.new_ (by simp) | refine Blk.drew ?_ | refine Blk.over ?_)))
  have HX1 := hide (show Ext w w1 from (by (with_reducible (repeat' (first | exact Ext.refl _ | assumption | refine Ext.drew ?_ | refine Ext.drewN ?_ _ | refine Ext.alloc ?_ _ | refine Ext.setCell ?_ ?_ _ | refine Ext.trans ?_ (by assumption)))); all_goals (first | (simp; done) | (simp; omega))))
  clear hb1
  rcases hv with ⟨h0, _⟩ | ⟨_, rfl⟩
  · exact absurd rfl h0
  · have q0 := BQ1.out.at 0 rfl; have q1 := BQ1.out.at 1 rfl; have qz := BQ1.out.lt
    have t0 := BT1.out.at 0 rfl; have t1 := BT1.out.at 1 rfl; have tz := BT1.out.lt
    go_wp2_with fail
    obtain ⟨w2, hw2⟩ : ∃ w2, w2 = w1.alloc (.cells #[.int .i64 W, .int .i64 H, .slice a n c, .int .i64 (boxX W s id), .int .i64 (boxY W s id), .int .i64 (boxW W s id), .int .i64 (boxH W H s id)] 134) := ⟨_, rfl⟩
    have hx2 : Ext w1 w2 := by rw [hw2]; exact (Ext.refl _).alloc _
    have PL2 := hide (show PlaceAt w2 w1.heap.size W H a n c (boxX W s id) (boxY W s id) (boxW W s id) (boxH W H s id) by rw [hw2]; exact Blk.new_ rfl)
    have BQ2 := hide (Blk.ext BQ1.out hx2)
    have BT2 := hide (Blk.ext BT1.out hx2)
    have HX2 := hide (HX1.out.trans hx2)
    have hz12 : w1.heap.size < w2.heap.size := by rw [hw2]; simp
    rw [← hw2]
    clear hw2 hx2 q0 q1 qz t0 t1 tz BQ1 BT1 HX1
    refine (HF.out _ HX2.out).mono ?_
    rintro e w3 ⟨sv, rfl, hx3, _⟩
    have PL3 := hide (Blk.ext PL2.out hx3)
    have BQ3 := hide (Blk.ext BQ2.out hx3)
    have BT3 := hide (Blk.ext BT2.out hx3)
    have HX3 := hide (HX2.out.trans hx3)
    have HC3 := hide (HCO.out w3 HX3.out)
    clear hx3 BQ2 BT2 PL2
    have q0 := BQ3.out.at 0 rfl; have q1 := BQ3.out.at 1 rfl; have qz := BQ3.out.lt
    go_wp2_with fail
    have HE := eachU64_any (w := w3) (f := 81) (caps := #[.pointer (some ⟨w1.heap.size, 0, none⟩), .pointer (some ⟨w.heap.size + 3, 0, none⟩)]) (g := fun q => farD L q (idxN W (x, y))) cc (by rw [HM.out]; exact hl) HC3.out
      (fun w' hx q hq => HB.out w' w1.heap.size (w.heap.size + 3) (HX3.out.trans hx) (Blk.ext PL3.out hx) (by exact (Blk.ext BT3.out hx).at 0 rfl) (by exact (Blk.ext BT3.out hx).at 1 rfl) q hq)
      (enters_of Try.func81 (by kernel_rfl) rfl)
    rw [HM.out] at HE
    refine HE.mono ?_
    rintro e w4 ⟨v4, rfl, hx4, ho4⟩
    have hz3 := HX3.out.size
    obtain ⟨sa, sc, hs⟩ := ho4.slice
    rw [List.length_map] at hs
    subst hs
    have O4 := hide (ho4.lower (base' := w.heap.size) (by omega))
    have X4 := hide (HX3.out.trans hx4)
    clear hx4 ho4 HE
    go_wp2_with fail
    go_ret2
    exact ⟨.slice sa cs.length sc, rfl, X4.out, O4.out⟩
end Go.Proofs.Ytifbmapianddcaa
