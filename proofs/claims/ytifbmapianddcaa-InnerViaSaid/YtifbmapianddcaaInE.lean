/- Walks of layer 13: Of, To, Back. -/
import Derived.Test.YtifbmapianddcaaInD
set_option linter.all false
set_option linter.unusedVariables false
set_option linter.unusedSimpArgs false
namespace Go.Proofs.Ytifbmapianddcaa
open Go.RowKit

theorem RowsAt.touch {S : Nat → Prop} {w w' : World} {base : Nat} {v : Value} {ll : List (List Int)} (h : RowsAt w base v ll) (t : Touch S w w') (hs : ∀ k, base ≤ k → ¬ S k) : RowsAt w' base v ll := by
  obtain ⟨ss, h1, h2, h3⟩ := h
  exact ⟨ss, Own.touch h1 t (fun k hk => hs k (own_lt h1 hk).1), h2, fun i s r hs' hr => Own.touch (h3 i s r hs' hr) t (fun k hk => hs k (own_lt (h3 i s r hs' hr) hk).1)⟩
theorem RowsAt.lower {w : World} {base base' : Nat} {v : Value} {ll : List (List Int)} (h : RowsAt w base v ll) (hb : base' ≤ base) : RowsAt w base' v ll := by
  obtain ⟨ss, h1, h2, h3⟩ := h
  exact ⟨ss, h1.lower hb, h2, fun i s r hs' hr => (h3 i s r hs' hr).lower hb⟩
theorem touch2 (w : World) (g : Nat) (x y : Value) : Touch (fun j => j = g) w ((w.setCell ⟨g, 0, none⟩ x).setCell ⟨g, 1, none⟩ y) :=
  ((Touch.refl (fun j => j = g) w).setCell (p := ⟨g, 0, none⟩) (.inl rfl) x).setCell (p := ⟨g, 1, none⟩) (.inl rfl) y

/-- A cluster's place. -/
def PlaceAt (w : World) (pb : Nat) (W H : Int) (a : Option Addr) (n c : Nat) (bx byy bw bh : Int) : Prop := Blk w pb 134 #[.int .i64 W, .int .i64 H, .slice a n c, .int .i64 bx, .int .i64 byy, .int .i64 bw, .int .i64 bh]

set_option maxRecDepth 100000 in
theorem iOf1_any {w : World} {W H : Int} {a : Option Addr} {l : List Int} {bx byy bw bh : Int} (L : LandP W H l bx byy bw bh) (c : Nat) {pb qb : Nat} (q : Cell) (hq : hasB bx byy bw bh q.1 q.2 = true) {ca : Option Addr} {cs : List Cell} (cc : Nat) (hcs : ∀ q, q ∈ cs → hasB bx byy bw bh q.1 q.2 = true) (hl : cs.length ≤ 1000000) (hr : Row16 w a l) (hc : RowC w ca cs)
    (hP : PlaceAt w pb W H a l.length c bx byy bw bh) (hQ : w.cell? ⟨qb, 0, none⟩ = some (.slice ca cs.length cc)) :
    Calls Try.prog 76 (#[.agg #[.int .i64 q.1, .int .i64 q.2]] ++ #[.pointer (some ⟨pb, 0, none⟩), .pointer (some ⟨qb, 0, none⟩)]) w fun e w' => ∃ s : Option Addr × Nat × Nat, e = .returned (.slice s.1 s.2.1 s.2.2) ∧ Ext w w' ∧ Own u64E w' w.heap.size 38 (.slice s.1 s.2.1 s.2.2) (rowD L cs q) := by
  have HF := hide (fun (w' : World) (hx : Ext w w') => iFar_ok (w := w') L c q hq cc hcs hl (hr.ext hx) (hc.ext hx))
  have b0 : w.cell? ⟨pb, 0, none⟩ = some (.int .i64 W) := Blk.at hP 0 rfl
  have b1 : w.cell? ⟨pb, 1, none⟩ = some (.int .i64 H) := Blk.at hP 1 rfl
  have b2 : w.cell? ⟨pb, 2, none⟩ = some (.slice a l.length c) := Blk.at hP 2 rfl
  have b3 : w.cell? ⟨pb, 3, none⟩ = some (.int .i64 bx) := Blk.at hP 3 rfl
  have b4 : w.cell? ⟨pb, 4, none⟩ = some (.int .i64 byy) := Blk.at hP 4 rfl
  have b5 : w.cell? ⟨pb, 5, none⟩ = some (.int .i64 bw) := Blk.at hP 5 rfl
  have b6 : w.cell? ⟨pb, 6, none⟩ = some (.int .i64 bh) := Blk.at hP 6 rfl
  have zp : pb < w.heap.size := Blk.lt hP
  have zq := World.block_lt_of_cell? w _ hQ
  simp only at zq
  obtain ⟨n, hnn⟩ : ∃ z, l.length = z := ⟨_, rfl⟩
  obtain ⟨m, hmm⟩ : ∃ z, cs.length = z := ⟨_, rfl⟩
  rw [hnn, hmm] at HF
  rw [hnn] at b2
  rw [hmm] at hQ
  obtain ⟨x, y⟩ := q
  clear hq hcs hl hr hc hP hnn hmm
  simp only [List.append_toArray] at *
  go_enter Try.func76, Try.ntmps76
  go_wp2_with fail
  refine (HF.out _ (by (with_reducible (repeat' (first | exact Ext.refl _ | assumption | refine Ext.drew ?_ | refine Ext.drewN ?_ _ | refine Ext.alloc ?_ _ | refine Ext.setCell ?_ ?_ _ | refine Ext.trans ?_ (by assumption)))); all_goals (first | (simp; done) | (simp; omega)))).mono ?_
  rintro e w1 ⟨sv, rfl, hb1, ho1⟩
  have O1 := hide (ho1.lower (base' := w.heap.size) (by simp))
  have hx1 : Ext w w1 := (by (with_reducible (repeat' (first | exact Ext.refl _ | assumption | refine Ext.drew ?_ | refine Ext.drewN ?_ _ | refine Ext.alloc ?_ _ | refine Ext.setCell ?_ ?_ _ | refine Ext.trans ?_ (by assumption)))); all_goals (first | (simp; done) | (simp; omega)))
  clear hb1 ho1
  go_wp2_with fail
  go_ret
  exact ⟨sv, rfl, hx1, O1.out⟩

/-- What a table is asked for. -/
def CellsOk (W H s id : Int) (cs : List Cell) : Prop := ∀ q, q ∈ cs → hasB (boxX W s id) (boxY W s id) (boxW W s id) (boxH W H s id) q.1 q.2 = true
theorem cells_ok {W H s id : Int} (hr : rightB W H s = true) (hi : 0 ≤ id ∧ id < cnt W H s) {cs : List Cell} (h : cellsE W H s id cs cs.length = 0) : CellsOk W H s id cs := fun q hq => by
  obtain ⟨k, hk, rfl⟩ := List.getElem_of_mem hq
  have h1 := cellBad_zero (cellsE_zero h k hk)
  rw [inId_has hr hi] at h1
  simpa [List.getD_eq_getElem?_getD, hk] using h1

set_option maxRecDepth 100000 in
theorem iOf_bad {w : World} (W H : Int) (a : Option Addr) (n c : Nat) (PW PH s id : Int) (ca : Option Addr) (cs : List Cell) (cc : Nat) (hc : RowC w ca cs) (hl : cs.length ≤ 1000000) (hi : ∀ p ∈ cs, InI p.1 ∧ InI p.2) (he : innerE W H n PW PH s id cs ≠ 0) :
    Calls Try.prog 25 #[.agg #[.int .i64 W, .int .i64 H, .slice a n c], .agg #[.int .i64 PW, .int .i64 PH, .int .i64 s], .int .i64 id, .slice ca cs.length cc] w fun e w' => e = .returned (.tuple #[.agg #[.slice none 0 0, .slice none 0 0], .int .i64 (innerE W H n PW PH s id cs)]) ∧ Ext w w' := by
  have HL := hide (fun (w' : World) (hx : Ext w w') => iLook_any (w := w') W H a n c PW PH s id ca cs cc (hc.ext hx) hl hi)
  generalize innerE W H n PW PH s id cs = er at *
  have hb : (er != 0) = true := by simpa using he
  have HER := hide he
  obtain ⟨m, hm⟩ : ∃ z, cs.length = z := ⟨_, rfl⟩
  rw [hm] at HL ⊢
  clear hc hl hi he hm
  go_enter Try.func25, Try.ntmps25
  go_wp2_with fail
  refine (HL.out _ (by (with_reducible (repeat' (first | exact Ext.refl _ | assumption | refine Ext.drew ?_ | refine Ext.drewN ?_ _ | refine Ext.alloc ?_ _ | refine Ext.setCell ?_ ?_ _ | refine Ext.trans ?_ (by assumption)))); all_goals (first | (simp; done) | (simp; omega)))).mono ?_
  rintro e w1 ⟨⟨v, rfl, hv⟩, hb1⟩
  obtain ⟨hc1, hf1⟩ := hb1.cells; have hz1 := hb1.size; (repeat (first | rw [World.size_alloc] at hz1 | rw [World.size_drew] at hz1)); have z1_0 : w.heap.size < w1.heap.size := (by omega); have z1_1 : w.heap.size + 1 < w1.heap.size := (by omega); have z1_2 : w.heap.size + 2 < w1.heap.size := (by omega); have z1_3 : w.heap.size + 3 < w1.heap.size := (by omega)
  rcases hv with ⟨_, x1, x2, a3, n3, c3, x4, x5, x6, x7, rfl⟩ | ⟨h0, _⟩
  · go_wp2_with fail
    exact bodyPost_ret (v := .tuple #[.agg #[.slice none 0 0, .slice none 0 0], .int .i64 er]) (by simp [results, Try.results25, go_sem, *]) rfl ⟨rfl, (by (with_reducible (repeat' (first | exact Ext.refl _ | assumption | refine Ext.drew ?_ | refine Ext.drewN ?_ _ | refine Ext.alloc ?_ _ | refine Ext.setCell ?_ ?_ _ | refine Ext.trans ?_ (by assumption)))); all_goals (first | (simp; done) | (simp; omega)))⟩
  · exact absurd h0 HER.out

set_option maxRecDepth 100000 in
set_option maxHeartbeats 400000 in
theorem iOf_ok {w : World} {W H : Int} {a : Option Addr} {l : List Int} (c : Nat) {PW PH s id : Int} {ca : Option Addr} {cs : List Cell} (cc : Nat) (hr : Row16 w a l) (hu : U16s l) (hc : RowC w ca cs) (hl : cs.length ≤ 1000000) (hi : ∀ p ∈ cs, InI p.1 ∧ InI p.2) (he : innerE W H l.length PW PH s id cs = 0) (L : boxL W H s id l) :
    Calls Try.prog 25 #[.agg #[.int .i64 W, .int .i64 H, .slice a l.length c], .agg #[.int .i64 PW, .int .i64 PH, .int .i64 s], .int .i64 id, .slice ca cs.length cc] w fun e w' => ∃ v1 v2, e = .returned (.tuple #[.agg #[v1, v2], .int .i64 0]) ∧ Ext w w' ∧ Own cellE w' w.heap.size 28 v1 cs ∧ RowsAt w' w.heap.size v2 (cs.map (rowD L cs)) := by
  obtain ⟨e1, e2, e3, e4, e5, e6⟩ := innerE_ok.1 he
  have hok := cells_ok e4 e5 e6
  have HL := hide (fun (w' : World) (hx : Ext w w') => iLook_any (w := w') W H a l.length c PW PH s id ca cs cc (hc.ext hx) hl hi)
  rw [he] at HL
  have HO := hide (fun (w' : World) (pb qb : Nat) (hx : Ext w w') (hP : PlaceAt w' pb W H a l.length c (boxX W s id) (boxY W s id) (boxW W s id) (boxH W H s id)) (hQ : w'.cell? ⟨qb, 0, none⟩ = some (.slice ca cs.length cc)) (q : Cell) (hq : q ∈ cs) => iOf1_any (w := w') (pb := pb) (qb := qb) L c q (hok q hq) cc hok hl (hr.ext hx) (hc.ext hx) hP hQ)
  have HCL := hide (fun (w' : World) (hx : Ext w w') => cloneCell_any (w := w') cc hl (hc.ext hx))
  have HCO := hide (fun (w' : World) (hx : Ext w w') => hc.ext hx)
  obtain ⟨n, hn⟩ : ∃ z, l.length = z := ⟨_, rfl⟩
  rw [hn] at HL HO ⊢
  obtain ⟨m, hm⟩ : ∃ z, cs.length = z := ⟨_, rfl⟩
  have HM := hide hm
  rw [hm] at HL HO HCL hl ⊢
  clear hc hi he hr hu hok hn hm e1 e2 e3 e4 e5 e6
  go_enter Try.func25, Try.ntmps25
  go_wp2_with fail
  refine (HL.out _ (by (with_reducible (repeat' (first | exact Ext.refl _ | assumption | refine Ext.drew ?_ | refine Ext.drewN ?_ _ | refine Ext.alloc ?_ _ | refine Ext.setCell ?_ ?_ _ | refine Ext.trans ?_ (by assumption)))); all_goals (first | (simp; done) | (simp; omega)))).mono ?_
  rintro e w1 ⟨⟨v, rfl, hv⟩, hb1⟩
  have BQ1 : Hid (Blk w1 (w.heap.size + 2) 37 #[.slice ca m cc]) := hide (by refine Blk.ext ?_ hb1; (repeat' (first | exact Blk.new_ (by simp) | refine Blk.drew ?_ | refine Blk.over ?_)))
  have BR1 : Hid (Blk w1 (w.heap.size + 3) 57 #[.slice none 0 0, .slice none 0 0]) := hide (by refine Blk.ext ?_ hb1; (repeat' (first | exact Blk.new_ (by simp) | refine Blk.drew ?_ | refine Blk.over ?_)))
  have HX1 := hide (show Ext w w1 from (by (with_reducible (repeat' (first | exact Ext.refl _ | assumption | refine Ext.drew ?_ | refine Ext.drewN ?_ _ | refine Ext.alloc ?_ _ | refine Ext.setCell ?_ ?_ _ | refine Ext.trans ?_ (by assumption)))); all_goals (first | (simp; done) | (simp; omega))))
  clear hb1
  rcases hv with ⟨h0, _⟩ | ⟨_, rfl⟩
  · exact absurd rfl h0
  · have q0 := BQ1.out.at 0 rfl; have qz := BQ1.out.lt
    go_wp2_with fail
    obtain ⟨w2, hw2⟩ : ∃ w2, w2 = w1.alloc (.cells #[.int .i64 W, .int .i64 H, .slice a n c, .int .i64 (boxX W s id), .int .i64 (boxY W s id), .int .i64 (boxW W s id), .int .i64 (boxH W H s id)] 134) := ⟨_, rfl⟩
    have hx2 : Ext w1 w2 := by rw [hw2]; exact (Ext.refl _).alloc _
    have PL2 := hide (show PlaceAt w2 w1.heap.size W H a n c (boxX W s id) (boxY W s id) (boxW W s id) (boxH W H s id) by rw [hw2]; exact Blk.new_ rfl)
    have BQ2 := hide (Blk.ext BQ1.out hx2)
    have BR2 := hide (Blk.ext BR1.out hx2)
    have HX2 := hide (HX1.out.trans hx2)
    have HC2 := hide (HCO.out w2 HX2.out)
    have hz1 : w.heap.size + 3 < w1.heap.size := BR1.out.lt
    have hz12 := hx2.size
    have hz23 : w2.heap.size = w1.heap.size + 1 := by rw [hw2]; simp
    have HZ23 := hide hz23
    rw [← hw2]
    clear hw2 hx2 q0 qz BQ1 BR1 HX1 hz23
    have HE := eachRow_any (w := w2) (f := 76) (caps := #[.pointer (some ⟨w1.heap.size, 0, none⟩), .pointer (some ⟨w.heap.size + 2, 0, none⟩)]) (g := rowD L cs) cc (by rw [HM.out]; exact hl) HC2.out
      (fun w' hx q hq => HO.out w' w1.heap.size (w.heap.size + 2) (HX2.out.trans hx) (Blk.ext PL2.out hx) (by exact (Blk.ext BQ2.out hx).at 0 rfl) q hq)
      (enters_of Try.func76 (by kernel_rfl) rfl)
    rw [HM.out] at HE
    refine HE.mono ?_
    rintro e w3 ⟨v2, rfl, hx3, hrows⟩
    have hz2 := HX2.out.size
    have hz34 := hx3.size
    have R3 := hide hrows
    have BQ3 := hide (Blk.ext BQ2.out hx3)
    have BR3 := hide (Blk.ext BR2.out hx3)
    have HX3 := hide (HX2.out.trans hx3)
    obtain ⟨ss, hss, _⟩ := hrows
    obtain ⟨ra, rc, hrv⟩ := hss.slice
    subst hrv
    clear hss hx3 BQ2 BR2 PL2 HE
    have q0 := BQ3.out.at 0 rfl; have qz := BQ3.out.lt
    go_wp2_with fail
    refine (HCL.out _ HX3.out).mono ?_
    rintro e w4 ⟨v1, rfl, hx4, ho4⟩
    have hz3 := HX3.out.size
    have R4 := hide (R3.out.ext hx4)
    have O4 := hide ho4
    have BR4 := hide (Blk.ext BR3.out hx4)
    have HX4 := hide (HX3.out.trans hx4)
    obtain ⟨sa, sc, hsv⟩ := ho4.slice
    subst hsv
    clear hx4 ho4 q0 qz BR3 BQ3
    have r0 := BR4.out.at 0 rfl; have r1 := BR4.out.at 1 rfl; have rz := BR4.out.lt
    have f0 := BR4.out.frozen 0
    have f1 := BR4.out.frozen 1
    have FIN : Hid (∀ w', Touch (fun j => j = w.heap.size + 3) w4 w' → Ext w w' ∧ Own cellE w' w.heap.size 28 (.slice sa cs.length sc) cs ∧ RowsAt w' w.heap.size (.slice ra ss.length rc) (cs.map (rowD L cs))) := hide (fun w' tt => ⟨((Touch.of_ext (S := fun _ => False) HX4.out).after tt (fun j hj e => by omega)).ext, (Own.touch O4.out tt (fun k hk e => by have := (own_lt O4.out hk).1; omega)).lower (by omega), (R4.out.touch tt (fun k hk e => by omega)).lower (by omega)⟩)
    go_wp2_with fail
    exact bodyPost_ret (v := .tuple #[.agg #[.slice sa cs.length sc, .slice ra ss.length rc], .int .i64 0]) (by simp [results, Try.results25, go_sem, *]) rfl ⟨_, _, rfl, FIN.out _ (touch2 w4 _ _ _)⟩
end Go.Proofs.Ytifbmapianddcaa
