/- Walk of Same, of layer 13; the example's numbers. -/
import Derived.Test.YtifbmapianddcaaInI
namespace Go.Proofs.Ytifbmapianddcaa
open Go.RowKit

set_option maxRecDepth 100000 in
theorem iSame_any (a b ra rb : Option Addr) (l m : List Cell) (ll mm : List (List Int)) (c d e1 e2 : Nat) (w : World) (hl : l.length ≤ 1000000) (ha : RowC w a l) (hb : RowC w b m) (hll : ll.length ≤ 1000000) (hra : RowsU w ra ll) (hrb : RowsU w rb mm) (hs : ∀ r, r ∈ ll → r.length ≤ 1000000) :
    Calls Try.prog 36 #[.agg #[.slice a l.length c, .slice ra ll.length e1], .agg #[.slice b m.length d, .slice rb mm.length e2]] w fun e w' => e = .returned (.bool (decide (l = m) && decide (ll = mm))) ∧ Ext w w' := by
  have H1 := hide (fun (w' : World) (hx : Ext w w') => equalCell_any a b l m c d w' hl (ha.ext hx) (hb.ext hx))
  have H2 := hide (fun (w' : World) (hx : Ext w w') => equalRows_any ra rb ll mm e1 e2 w' hll (hra.ext hx) (hrb.ext hx) hs)
  generalize decide (l = m) = p at *
  generalize decide (ll = mm) = q at *
  obtain ⟨n1, h1⟩ : ∃ z, l.length = z := ⟨_, rfl⟩
  obtain ⟨n2, h2⟩ : ∃ z, m.length = z := ⟨_, rfl⟩
  obtain ⟨n3, h3⟩ : ∃ z, ll.length = z := ⟨_, rfl⟩
  obtain ⟨n4, h4⟩ : ∃ z, mm.length = z := ⟨_, rfl⟩
  rw [h1, h2] at H1
  rw [h3, h4] at H2
  rw [h1, h2, h3, h4]
  clear ha hb hra hrb hs hl hll h1 h2 h3 h4
  cases p
  · go_enter Try.func36, Try.ntmps36
    go_wp2_with fail
    refine (H1.out _ (by (with_reducible (repeat' (first | exact Ext.refl _ | assumption | refine Ext.drew ?_ | refine Ext.drewN ?_ _ | refine Ext.alloc ?_ _ | refine Ext.setCell ?_ ?_ _ | refine Ext.trans ?_ (by assumption)))); all_goals (first | (simp; done) | (simp; omega)))).mono ?_
    rintro e w1 ⟨rfl, hb1⟩
    go_wp2_with fail
    go_ret
    exact ⟨rfl, (by (with_reducible (repeat' (first | exact Ext.refl _ | assumption | refine Ext.drew ?_ | refine Ext.drewN ?_ _ | refine Ext.alloc ?_ _ | refine Ext.setCell ?_ ?_ _ | refine Ext.trans ?_ (by assumption)))); all_goals (first | (simp; done) | (simp; omega)))⟩
  · go_enter Try.func36, Try.ntmps36
    go_wp2_with fail
    refine (H1.out _ (by (with_reducible (repeat' (first | exact Ext.refl _ | assumption | refine Ext.drew ?_ | refine Ext.drewN ?_ _ | refine Ext.alloc ?_ _ | refine Ext.setCell ?_ ?_ _ | refine Ext.trans ?_ (by assumption)))); all_goals (first | (simp; done) | (simp; omega)))).mono ?_
    rintro e w1 ⟨rfl, hb1⟩
    obtain ⟨hc1, hf1⟩ := hb1.cells; have hz1 := hb1.size; (repeat (first | rw [World.size_alloc] at hz1 | rw [World.size_drew] at hz1)); have z1_0 : w.heap.size < w1.heap.size := (by omega); have z1_1 : w.heap.size + 1 < w1.heap.size := (by omega)
    go_wp2_with fail
    refine (H2.out _ (by (with_reducible (repeat' (first | exact Ext.refl _ | assumption | refine Ext.drew ?_ | refine Ext.drewN ?_ _ | refine Ext.alloc ?_ _ | refine Ext.setCell ?_ ?_ _ | refine Ext.trans ?_ (by assumption)))); all_goals (first | (simp; done) | (simp; omega)))).mono ?_
    rintro e w2 ⟨rfl, hb2⟩
    go_wp2_with fail
    go_ret
    exact ⟨by cases q <;> rfl, (by (with_reducible (repeat' (first | exact Ext.refl _ | assumption | refine Ext.drew ?_ | refine Ext.drewN ?_ _ | refine Ext.alloc ?_ _ | refine Ext.setCell ?_ ?_ _ | refine Ext.trans ?_ (by assumption)))); all_goals (first | (simp; done) | (simp; omega)))⟩

def awI : List Int := [1, 5, 1, 1, 1, 1, 1, 1]
theorem awI_u16 : U16s awI := by intro x hx; simp [awI] at hx; omega
theorem awI_box : boxL 4 2 2 0 awI := boxL_of (by decide) (by decide) ⟨by decide, by decide⟩ awI_u16
def awIN : Net := mapNet (W := 4) (H := 2) (l := awI) awI_box
def tabF (t : List Int) (v : Nat) : Int := t.getD v infI
def tabOk (s : Nat) (t : List Int) : Bool :=
  decide (t.length = 8) && decide (tabF t s = 0) && (List.range 8).all (fun v => (awIN.op v || decide (tabF t v = infI)) && decide (0 ≤ tabF t v) && decide (tabF t v ≤ infI) &&
    (!awIN.op v || decide (v = s) || ((awIN.adj v).all (fun u => !awIN.op u || decide (infI ≤ tabF t u + awIN.cost v) || decide (tabF t v ≤ tabF t u + awIN.cost v)) && (decide (infI ≤ tabF t v) || (awIN.adj v).any (fun u => awIN.op u && decide (tabF t u + awIN.cost v = tabF t v))))))
theorem tab_far {s : Nat} {t : List Int} (h : tabOk s t = true) : IsFar awIN s (tabF t) := by
  unfold tabOk at h
  simp only [Bool.and_eq_true, decide_eq_true_eq, List.all_eq_true, List.mem_range] at h
  obtain ⟨⟨h8, h0⟩, ha⟩ := h
  have hbig : ∀ v, 8 ≤ v → tabF t v = infI := fun v hv => by
    unfold tabF
    rw [List.getD_eq_getElem?_getD, List.getElem?_eq_none (by omega)]
    rfl
  have hlt : ∀ v, awIN.op v = true → v < 8 := fun v hv => awIN.lt v hv
  refine ⟨fun _ => h0, ?_, ?_, ?_, ?_, ?_⟩
  · intro v hv
    by_cases h : v < 8
    · have := (ha v h).1.1.1
      rw [hv] at this
      simpa using this
    · exact hbig v (by omega)
  · intro v
    by_cases h : v < 8
    · exact (ha v h).1.1.2
    · rw [hbig v (by omega)]; decide
  · intro v
    by_cases h : v < 8
    · exact (ha v h).1.2
    · rw [hbig v (by omega)]; exact Int.le_refl _
  · intro v hv hs u hu huo hl
    have h1 := (ha v (hlt v hv)).2
    rw [hv] at h1
    simp only [Bool.not_true, Bool.false_or, Bool.or_eq_true, decide_eq_true_eq, Bool.and_eq_true, List.all_eq_true] at h1
    rcases h1 with h1 | h1
    · exact absurd h1 hs
    · rcases h1.1 u hu with (h2 | h2) | h2
      · rw [huo] at h2; cases h2
      · omega
      · exact h2
  · intro v hv hs hl
    have h1 := (ha v (hlt v hv)).2
    rw [hv] at h1
    simp only [Bool.not_true, Bool.false_or, Bool.or_eq_true, decide_eq_true_eq, Bool.and_eq_true, List.any_eq_true] at h1
    rcases h1 with h1 | h1
    · exact absurd h1 hs
    · rcases h1.2 with h2 | ⟨u, u1, u2, u3⟩
      · omega
      · exact ⟨u, u1, u2, u3⟩
theorem tab_row {c : Cell} {t : List Int} (h : tabOk (idxN 4 c) t = true) (q : Cell) : farD (W := 4) (H := 2) (l := awI) awI_box c (idxN 4 q) = tabF t (idxN 4 q) := (farD_one (W := 4) (H := 2) (l := awI) awI_box (tab_far h) _).symm
def big : Int := 18446744073709551615
theorem tab0 : tabOk 0 [0, 5, big, big, 1, 2, big, big] = true := by decide +kernel
theorem tab1 : tabOk 1 [1, 0, big, big, 2, 1, big, big] = true := by decide +kernel
theorem tab4 : tabOk 4 [1, 6, big, big, 0, 1, big, big] = true := by decide +kernel
theorem tab5 : tabOk 5 [2, 5, big, big, 1, 0, big, big] = true := by decide +kernel
def awC : List Cell := [(0, 0), (1, 0), (1, 1)]
theorem aw_rows : awC.map (rowD (W := 4) (H := 2) (l := awI) awI_box awC) = [[0, 5, 2], [1, 0, 1], [2, 5, 0]] := by
  have h0 := tab_row (c := (0, 0)) tab0
  have h1 := tab_row (c := (1, 0)) tab1
  have h5 := tab_row (c := (1, 1)) tab5
  simp only [awC, List.map_cons, List.map_nil, rowD, h0, h1, h5]
  decide
theorem aw_to : rowD (W := 4) (H := 2) (l := awI) awI_box awC (0, 1) = [1, 6, 1] := by
  have h4 := tab_row (c := (0, 1)) tab4
  simp only [awC, List.map_cons, List.map_nil, rowD, h4]
  decide
theorem aw_back : awC.map (fun q => farD (W := 4) (H := 2) (l := awI) awI_box q (idxN 4 (0, 1))) = [1, 2, 1] := by
  have h0 := tab_row (c := (0, 0)) tab0
  have h1 := tab_row (c := (1, 0)) tab1
  have h5 := tab_row (c := (1, 1)) tab5
  simp only [awC, List.map_cons, List.map_nil, h0, h1, h5]
  decide
theorem aw_inner : innerE 4 2 awI.length 4 2 2 0 awC = 0 := by decide
theorem aw_toE : toE 4 2 awI.length 4 2 2 0 awC (0, 1) = 0 := by decide
end Go.Proofs.Ytifbmapianddcaa
