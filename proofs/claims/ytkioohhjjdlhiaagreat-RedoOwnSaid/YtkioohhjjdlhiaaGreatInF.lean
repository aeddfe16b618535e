/- Walks of layer 13: To and Back; Walk of Back, of layer 13; Rows that are compared, of layer 13; Rows of cells, and of rows, that are compared, of layer 13; Walk of Same, of layer 13; the example's numbers; The example of chapter 13 -/
import Derived.Test.YtkioohhjjdlhiaaGreatInB
set_option linter.all false
set_option linter.unusedVariables false
set_option linter.unusedSimpArgs false
namespace Go.Proofs.YtkioohhjjdlhiaaGreat
open Go.RowKit

/-- What To and Back are refused for. -/
def toE (W H : Int) (n : Nat) (PW PH s id : Int) (cs : List Cell) (p : Cell) : Int := if innerE W H n PW PH s id cs = 0 then lookE W H n (boxX W s id) (boxY W s id) (boxW W s id) (boxH W H s id) p.1 p.2 else innerE W H n PW PH s id cs

set_option maxRecDepth 100000 in
theorem iTo_bad {w : World} (W H : Int) (a : Option Addr) (n c : Nat) (PW PH s id : Int) (ca : Option Addr) (cs : List Cell) (cc : Nat) (ra : Option Addr) (rn rc : Nat) (p : Cell) (hc : RowC w ca cs) (hl : cs.length ≤ 1000000) (hi : ∀ p ∈ cs, InI p.1 ∧ InI p.2) (he : toE W H n PW PH s id cs p ≠ 0) :
  Calls Tryz.prog 196 #[.agg #[.int .i64 W, .int .i64 H, .slice a n c], .agg #[.int .i64 PW, .int .i64 PH, .int .i64 s], .int .i64 id, .agg #[.slice ca cs.length cc, .slice ra rn rc], .agg #[.int .i64 p.1, .int .i64 p.2]] w fun e w' => e = .returned (.tuple #[.slice none 0 0, .int .i64 (toE W H n PW PH s id cs p)]) ∧ Ext w w' := by
 have HL := hide (fun (w' : World) (hx : Ext w w') => iLook_any (w := w') W H a n c PW PH s id ca cs cc (hc.ext hx) hl hi)
 obtain ⟨x, y⟩ := p
 by_cases h0 : innerE W H n PW PH s id cs = 0
 ·have h1 : toE W H n PW PH s id cs (x, y) = lookE W H n (boxX W s id) (boxY W s id) (boxW W s id) (boxH W H s id) x y := by unfold toE; rw [if_pos h0]
  rw [h1] at he ⊢
  have HF := hide (fun (w' : World) => iFar_bad (w := w') W H a n c (boxX W s id) (boxY W s id) (boxW W s id) (boxH W H s id) x y ca cs.length cc he)
  rw [h0] at HL
  generalize lookE W H n (boxX W s id) (boxY W s id) (boxW W s id) (boxH W H s id) x y = er at *
  obtain ⟨m, hm⟩ : ∃ z, cs.length = z := ⟨_, rfl⟩
  rw [hm] at HL HF ⊢
  clear hc hl hi h0 h1 he hm
  simp only
  go_enter Tryz.func196, Tryz.ntmps196
  go_wp2_with fail
  refine (HL.out _ (by (with_reducible (repeat' (first | exact z_r _ | assumption | refine z_d ?_ | refine z_n ?_ _ | refine z_a ?_ _ | refine z_s ?_ ?_ _ | refine z_t ?_ (by assumption)))); all_goals (simp <;> omega))).mono ?_
  rintro e w1 ⟨⟨v, rfl, hv⟩, hb1⟩
  obtain ⟨hc1, hf1⟩ := hb1.cells; have hz1 := hb1.size; (repeat (first | rw [World.size_alloc] at hz1 | rw [World.size_drew] at hz1)); have z1_0 : w.heap.size < w1.heap.size := (by omega); have z1_1 : w.heap.size + 1 < w1.heap.size := (by omega); have z1_2 : w.heap.size + 2 < w1.heap.size := (by omega); have z1_3 : w.heap.size + 3 < w1.heap.size := (by omega)
  rcases hv with ⟨h0, _⟩ | ⟨_, rfl⟩
  ·exact absurd rfl h0
  ·go_wp2_with fail
   refine (HF.out _).mono ?_
   rintro e w2 ⟨rfl, hb2⟩
   go_wp2_with fail
   go_ret2
   exact ⟨rfl, (by (with_reducible (repeat' (first | exact z_r _ | assumption | refine z_d ?_ | refine z_n ?_ _ | refine z_a ?_ _ | refine z_s ?_ ?_ _ | refine z_t ?_ (by assumption)))); all_goals (simp <;> omega))⟩
 ·have h1 : toE W H n PW PH s id cs (x, y) = innerE W H n PW PH s id cs := by unfold toE; rw [if_neg h0]
  rw [h1] at he ⊢
  generalize innerE W H n PW PH s id cs = er at *
  have hb : (er != 0) = true := by simpa using he
  have HER := hide he
  obtain ⟨m, hm⟩ : ∃ z, cs.length = z := ⟨_, rfl⟩
  rw [hm] at HL ⊢
  clear hc hl hi he hm h0 h1
  simp only
  go_enter Tryz.func196, Tryz.ntmps196
  go_wp2_with fail
  refine (HL.out _ (by (with_reducible (repeat' (first | exact z_r _ | assumption | refine z_d ?_ | refine z_n ?_ _ | refine z_a ?_ _ | refine z_s ?_ ?_ _ | refine z_t ?_ (by assumption)))); all_goals (simp <;> omega))).mono ?_
  rintro e w1 ⟨⟨v, rfl, hv⟩, hb1⟩
  rcases hv with ⟨_, x1, x2, a3, n3, c3, x4, x5, x6, x7, rfl⟩ | ⟨h0, _⟩
  ·go_wp2_with fail
   go_ret2
   exact ⟨rfl, (by (with_reducible (repeat' (first | exact z_r _ | assumption | refine z_d ?_ | refine z_n ?_ _ | refine z_a ?_ _ | refine z_s ?_ ?_ _ | refine z_t ?_ (by assumption)))); all_goals (simp <;> omega))⟩
  ·exact absurd h0 HER.out

theorem toE_ok {W H : Int} {n : Nat} {PW PH s id : Int} {cs : List Cell} {p : Cell} (h : toE W H n PW PH s id cs p = 0) : innerE W H n PW PH s id cs = 0 ∧ lookE W H n (boxX W s id) (boxY W s id) (boxW W s id) (boxH W H s id) p.1 p.2 = 0 := by
 unfold toE at h
 split at h
 ·next h1 => exact ⟨h1, h⟩
 ·next h1 => exact absurd h h1

set_option maxRecDepth 100000 in
theorem iTo_ok {w : World} {W H : Int} {a : Option Addr} {l : List Int} (c : Nat) {PW PH s id : Int} {ca : Option Addr} {cs : List Cell} (cc : Nat) (ra : Option Addr) (rn rc : Nat) {p : Cell} (hr : Row16 w a l) (hc : RowC w ca cs) (hl : cs.length ≤ 1000000) (hi : ∀ p ∈ cs, InI p.1 ∧ InI p.2) (he : toE W H l.length PW PH s id cs p = 0) (L : boxL W H s id l) :
  Calls Tryz.prog 196 #[.agg #[.int .i64 W, .int .i64 H, .slice a l.length c], .agg #[.int .i64 PW, .int .i64 PH, .int .i64 s], .int .i64 id, .agg #[.slice ca cs.length cc, .slice ra rn rc], .agg #[.int .i64 p.1, .int .i64 p.2]] w fun e w' => ∃ sv : Option Addr × Nat × Nat, e = .returned (.tuple #[.slice sv.1 sv.2.1 sv.2.2, .int .i64 0]) ∧ Ext w w' ∧ Own u64E w' w.heap.size 87 (.slice sv.1 sv.2.1 sv.2.2) (rowD L cs p) := by
 obtain ⟨h0, h1⟩ := toE_ok he
 obtain ⟨e1, e2, e3, e4, e5, e6⟩ := innerE_ok.1 h0
 have hok := cells_ok e4 e5 e6
 have HL := hide (fun (w' : World) (hx : Ext w w') => iLook_any (w := w') W H a l.length c PW PH s id ca cs cc (hc.ext hx) hl hi)
 rw [h0] at HL
 have HF := hide (fun (w' : World) (hx : Ext w w') => iFar_ok (w := w') L c p (lookE_ok.1 h1).2.2.2 cc hok hl (hr.ext hx) (hc.ext hx))
 obtain ⟨x, y⟩ := p
 obtain ⟨n, hn⟩ : ∃ z, l.length = z := ⟨_, rfl⟩
 obtain ⟨m, hm⟩ : ∃ z, cs.length = z := ⟨_, rfl⟩
 rw [hn, hm] at HL HF ⊢
 clear hc hi he hr hok hn hm e1 e2 e3 e4 e5 e6 h0 h1 hl
 simp only at HF ⊢
 go_enter Tryz.func196, Tryz.ntmps196
 go_wp2_with fail
 refine (HL.out _ (by (with_reducible (repeat' (first | exact z_r _ | assumption | refine z_d ?_ | refine z_n ?_ _ | refine z_a ?_ _ | refine z_s ?_ ?_ _ | refine z_t ?_ (by assumption)))); all_goals (simp <;> omega))).mono ?_
 rintro e w1 ⟨⟨v, rfl, hv⟩, hb1⟩
 obtain ⟨hc1, hf1⟩ := hb1.cells; have hz1 := hb1.size; (repeat (first | rw [World.size_alloc] at hz1 | rw [World.size_drew] at hz1)); have z1_0 : w.heap.size < w1.heap.size := (by omega); have z1_1 : w.heap.size + 1 < w1.heap.size := (by omega); have z1_2 : w.heap.size + 2 < w1.heap.size := (by omega); have z1_3 : w.heap.size + 3 < w1.heap.size := (by omega)
 rcases hv with ⟨h0, _⟩ | ⟨_, rfl⟩
 ·exact absurd rfl h0
 ·go_wp2_with fail
  refine (HF.out _ (by (with_reducible (repeat' (first | exact z_r _ | assumption | refine z_d ?_ | refine z_n ?_ _ | refine z_a ?_ _ | refine z_s ?_ ?_ _ | refine z_t ?_ (by assumption)))); all_goals (simp <;> omega))).mono ?_
  rintro e w2 ⟨sv, rfl, hb2, ho2⟩
  have hx2 : Ext w w2 := (by (with_reducible (repeat' (first | exact z_r _ | assumption | refine z_d ?_ | refine z_n ?_ _ | refine z_a ?_ _ | refine z_s ?_ ?_ _ | refine z_t ?_ (by assumption)))); all_goals (simp <;> omega))
  have hz1 : w.heap.size ≤ w1.heap.size := by omega
  have O2 := hide (ho2.lower (base' := w.heap.size) (by simp; omega))
  clear ho2 hb2
  go_wp2_with fail
  go_ret2
  exact ⟨sv, rfl, hx2, O2.out⟩

theorem u64_head {t : Int} {r : List Int} {w : World} {base g n c : Nat} (h : Own u64E w base 87 (.slice (some ⟨g, 0, none⟩) n c) (t :: r)) : w.cell? ⟨g, 0, none⟩ = some (.int .u64 t) := by
 have h1 := (Reads.cells h.reads).2.2 0 t rfl 0 (.int .u64 t) rfl
 simpa using h1

/-- A row of costs that is read. -/
def RowU (w : World) (a : Option Addr) (l : List Int) : Prop := 0 < l.length → ∃ b off, a = some ⟨b, off, none⟩ ∧ b < w.heap.size ∧ ∀ k (h : k < l.length), w.cell? ⟨b, off + k, none⟩ = some (.int .u64 l[k])
theorem RowU.ext {w w' : World} {a : Option Addr} {l : List Int} (h : RowU w a l) (e : Ext w w') : RowU w' a l := fun h0 => by
 obtain ⟨b, off, ha, hb, hc⟩ := h h0
 exact ⟨b, off, ha, Nat.lt_of_lt_of_le hb e.size, fun k hk => (e.cell (p := ⟨b, off + k, none⟩) hb).trans (hc k hk)⟩
theorem Reads.rowU {w : World} {a : Option Addr} {n c : Nat} {l : List Int} (h : Reads u64E w (.slice a n c) l) : n = l.length ∧ RowU w a l := by
 rcases h with ⟨hv, rfl⟩ | ⟨b, off, cap, hv, hb, hc⟩
 ·injection hv with h1 h2 _
  exact ⟨h2, fun h => by simp at h⟩
 ·injection hv with h1 h2 _
  refine ⟨h2, fun _ => ⟨b, off, h1, hb, fun k hk => ?_⟩⟩
  have := hc k l[k] (List.getElem?_eq_getElem hk) 0 (.int .u64 l[k]) rfl
  simpa [u64E] using this

set_option maxRecDepth 100000 in
theorem equalU64_any (a b : Option Addr) (l m : List Int) (c d : Nat) (w : World) (hl : l.length ≤ 1000000) (ha : RowU w a l) (hb : RowU w b m) :
  Calls Tryz.prog 81 #[.slice a l.length c, .slice b m.length d] w fun e w' => e = .returned (.bool (decide (l = m))) ∧ Ext w w' := by
 by_cases hlen : l.length = m.length
 ·have HA := hide ha
  have HB := hide hb
  have HLM := hide hlen
  obtain ⟨n, hn⟩ : ∃ n, l.length = n := ⟨_, rfl⟩
  have HN := hide hn
  rw [← hlen, hn]
  rw [hn] at hl
  clear ha hb hlen hn
  go_enter Tryz.func81, Tryz.ntmps81
  go_wp2_with fail
  go_loopw [13] (fun i wr => ∃ k : Nat, k ≤ n ∧ i = .int .i64 k ∧ l.take k = m.take k ∧ Ext w wr) (fun i _ => n - (intOf i).toNat)
  case atStart => exact ⟨0, Nat.zero_le _, rfl, rfl, (by (with_reducible (repeat' (first | exact z_r _ | assumption | refine z_d ?_ | refine z_n ?_ _ | refine z_a ?_ _ | refine z_s ?_ ?_ _ | refine z_t ?_ (by assumption)))); all_goals (simp <;> omega))⟩
  case round =>
   obtain ⟨k, hk, rfl, htk, hx⟩ := hrel
   have HT := hide htk
   have HX := hide hx
   clear htk hx
   by_cases hlt : k < n
   ·have h1 : k < l.length := by rw [HN.out]; exact hlt
    have h2 : k < m.length := by rw [← HLM.out]; exact h1
    obtain ⟨ba, oa, rfl, za, ca⟩ := HA.out (by omega)
    obtain ⟨bb, ob, rfl, zb, cb⟩ := HB.out (by omega)
    have d0 := (HX.out.cell (p := ⟨ba, oa + k, none⟩) za).trans (ca k h1)
    have d1 := (HX.out.cell (p := ⟨bb, ob + k, none⟩) zb).trans (cb k h2)
    have z0 : ba < wr.heap.size := Nat.lt_of_lt_of_le za HX.out.size
    have z1 : bb < wr.heap.size := Nat.lt_of_lt_of_le zb HX.out.size
    have jk : (k : Int) < (n : Int) := by omega
    have e1 : l[k]? = some l[k] := List.getElem?_eq_getElem h1
    have e2 : m[k]? = some m[k] := List.getElem?_eq_getElem h2
    obtain ⟨x, hx⟩ : ∃ x, l[k] = x := ⟨_, rfl⟩
    obtain ⟨y, hy⟩ : ∃ y, m[k] = y := ⟨_, rfl⟩
    rw [hx] at d0 e1
    rw [hy] at d1 e2
    have E1 := hide e1
    have E2 := hide e2
    clear h1 h2 ca cb hx hy e1 e2
    by_cases hxy : x = y
    ·have HN1 : Hid (l.take (k + 1) = m.take (k + 1)) := hide (by rw [List.take_add_one, List.take_add_one, E1.out, E2.out, HT.out, hxy])
     have hb1 : (x != y) = false := by simpa using hxy
     have hx := HX.out
     clear hxy
     go_wp2
     go_quiet (fail)
     go_wp2
     go_roundw
     case rel => exact ⟨k + 1, hlt, by go_num, HN1.out, (by (with_reducible (repeat' (first | exact z_r _ | assumption | refine z_d ?_ | refine z_n ?_ _ | refine z_a ?_ _ | refine z_s ?_ ?_ _ | refine z_t ?_ (by assumption)))); all_goals (simp <;> omega))⟩
     case measure => simp [intOf]; omega
    ·have HF : Hid (decide (l = m) = false) := hide (by simp only [decide_eq_false_iff_not]; intro e; rw [e, E2.out] at E1; exact hxy (Option.some.inj E1.out).symm)
     have hb1 : (x != y) = true := by simpa using hxy
     clear hxy
     have hx := HX.out
     go_wp2
     go_quiet (fail)
     go_wp2
     go_ret
     exact ⟨by rw [HF.out] <;> rfl, (by (with_reducible (repeat' (first | exact z_r _ | assumption | refine z_d ?_ | refine z_n ?_ _ | refine z_a ?_ _ | refine z_s ?_ ?_ _ | refine z_t ?_ (by assumption)))); all_goals (simp <;> omega))⟩
   ·obtain rfl : n = k := by omega
    have HF : Hid (decide (l = m) = true) := hide (by
     have h := HT.out
     rw [List.take_of_length_le (by rw [HN.out]; exact Nat.le_refl _), List.take_of_length_le (by rw [← HLM.out, HN.out]; exact Nat.le_refl _)] at h
     simpa using h)
    have hx := HX.out
    go_wp2
    go_ret
    exact ⟨by rw [HF.out] <;> rfl, (by (with_reducible (repeat' (first | exact z_r _ | assumption | refine z_d ?_ | refine z_n ?_ _ | refine z_a ?_ _ | refine z_s ?_ ?_ _ | refine z_t ?_ (by assumption)))); all_goals (simp <;> omega))⟩
 ·have HF : Hid (decide (l = m) = false) := hide (by simp only [decide_eq_false_iff_not]; intro e; exact hlen (by rw [e]))
  have hb0 : ((l.length : Int) != (m.length : Int)) = true := by simp; omega
  obtain ⟨n, hn⟩ : ∃ n, l.length = n := ⟨_, rfl⟩
  obtain ⟨n2, hn2⟩ : ∃ n, m.length = n := ⟨_, rfl⟩
  have hb1 : (n != n2) = true := by simp; omega
  rw [hn, hn2] at hb0 ⊢
  clear ha hb hlen hn hn2
  go_enter Tryz.func81, Tryz.ntmps81
  go_wp2
  go_ret
  exact ⟨by rw [HF.out] <;> rfl, (by (with_reducible (repeat' (first | exact z_r _ | assumption | refine z_d ?_ | refine z_n ?_ _ | refine z_a ?_ _ | refine z_s ?_ ?_ _ | refine z_t ?_ (by assumption)))); all_goals (simp <;> omega))⟩

set_option maxRecDepth 100000 in
theorem equalCell_any (a b : Option Addr) (l m : List Cell) (c d : Nat) (w : World) (hl : l.length ≤ 1000000) (ha : RowC w a l) (hb : RowC w b m) :
  Calls Tryz.prog 79 #[.slice a l.length c, .slice b m.length d] w fun e w' => e = .returned (.bool (decide (l = m))) ∧ Ext w w' := by
 by_cases hlen : l.length = m.length
 ·have HA := hide ha
  have HB := hide hb
  have HLM := hide hlen
  obtain ⟨n, hn⟩ : ∃ n, l.length = n := ⟨_, rfl⟩
  have HN := hide hn
  rw [← hlen, hn]
  rw [hn] at hl
  clear ha hb hlen hn
  go_enter Tryz.func79, Tryz.ntmps79
  go_wp2_with fail
  go_loopw [13] (fun i wr => ∃ k : Nat, k ≤ n ∧ i = .int .i64 k ∧ l.take k = m.take k ∧ Ext w wr) (fun i _ => n - (intOf i).toNat)
  case atStart => exact ⟨0, Nat.zero_le _, rfl, rfl, (by (with_reducible (repeat' (first | exact z_r _ | assumption | refine z_d ?_ | refine z_n ?_ _ | refine z_a ?_ _ | refine z_s ?_ ?_ _ | refine z_t ?_ (by assumption)))); all_goals (simp <;> omega))⟩
  case round =>
   obtain ⟨k, hk, rfl, htk, hx⟩ := hrel
   have HT := hide htk
   have HX := hide hx
   clear htk hx
   by_cases hlt : k < n
   ·have h1 : k < l.length := by rw [HN.out]; exact hlt
    have h2 : k < m.length := by rw [← HLM.out]; exact h1
    obtain ⟨ba, oa, rfl, za, ca⟩ := HA.out (by omega)
    obtain ⟨bb, ob, rfl, zb, cb⟩ := HB.out (by omega)
    have d0 := (HX.out.cell (p := ⟨ba, oa + k * 2, none⟩) za).trans (ca k h1).1
    have d2 := (HX.out.cell (p := ⟨ba, oa + k * 2 + 1, none⟩) za).trans (ca k h1).2
    have d1 := (HX.out.cell (p := ⟨bb, ob + k * 2, none⟩) zb).trans (cb k h2).1
    have d3 := (HX.out.cell (p := ⟨bb, ob + k * 2 + 1, none⟩) zb).trans (cb k h2).2
    have z0 : ba < wr.heap.size := Nat.lt_of_lt_of_le za HX.out.size
    have z1 : bb < wr.heap.size := Nat.lt_of_lt_of_le zb HX.out.size
    have jk : (k : Int) < (n : Int) := by omega
    have e1 : l[k]? = some l[k] := List.getElem?_eq_getElem h1
    have e2 : m[k]? = some m[k] := List.getElem?_eq_getElem h2
    obtain ⟨x, hx⟩ : ∃ x, l[k] = x := ⟨_, rfl⟩
    obtain ⟨y, hy⟩ : ∃ y, m[k] = y := ⟨_, rfl⟩
    rw [hx] at d0 d2 e1
    rw [hy] at d1 d3 e2
    have E1 := hide e1
    have E2 := hide e2
    clear h1 h2 ca cb hx hy e1 e2
    by_cases hxy : x = y
    ·have HN1 : Hid (l.take (k + 1) = m.take (k + 1)) := hide (by rw [List.take_add_one, List.take_add_one, E1.out, E2.out, HT.out, hxy])
     have hq1 : ∀ w, (Op.equalIn 10000 69 (.agg #[.int .i64 x.1, .int .i64 x.2]) (.agg #[.int .i64 y.1, .int .i64 y.2])).run Tryz.prog w = .ok true w := fun w => by rw [eq_cell x y w, cellB_eq]; simp [hxy]
     have hx := HX.out
     clear hxy
     go_wp2
     go_quiet (fail)
     go_wp2
     go_roundw
     case rel => exact ⟨k + 1, hlt, by go_num, HN1.out, (by (with_reducible (repeat' (first | exact z_r _ | assumption | refine z_d ?_ | refine z_n ?_ _ | refine z_a ?_ _ | refine z_s ?_ ?_ _ | refine z_t ?_ (by assumption)))); all_goals (simp <;> omega))⟩
     case measure => simp [intOf]; omega
    ·have HF : Hid (decide (l = m) = false) := hide (by simp only [decide_eq_false_iff_not]; intro e; rw [e, E2.out] at E1; exact hxy (Option.some.inj E1.out).symm)
     have hq1 : ∀ w, (Op.equalIn 10000 69 (.agg #[.int .i64 x.1, .int .i64 x.2]) (.agg #[.int .i64 y.1, .int .i64 y.2])).run Tryz.prog w = .ok false w := fun w => by rw [eq_cell x y w, cellB_eq]; simp [hxy]
     clear hxy
     have hx := HX.out
     go_wp2
     go_quiet (fail)
     go_wp2
     go_ret
     exact ⟨by rw [HF.out] <;> rfl, (by (with_reducible (repeat' (first | exact z_r _ | assumption | refine z_d ?_ | refine z_n ?_ _ | refine z_a ?_ _ | refine z_s ?_ ?_ _ | refine z_t ?_ (by assumption)))); all_goals (simp <;> omega))⟩
   ·obtain rfl : n = k := by omega
    have HF : Hid (decide (l = m) = true) := hide (by
     have h := HT.out
     rw [List.take_of_length_le (by rw [HN.out]; exact Nat.le_refl _), List.take_of_length_le (by rw [← HLM.out, HN.out]; exact Nat.le_refl _)] at h
     simpa using h)
    have hx := HX.out
    go_wp2
    go_ret
    exact ⟨by rw [HF.out] <;> rfl, (by (with_reducible (repeat' (first | exact z_r _ | assumption | refine z_d ?_ | refine z_n ?_ _ | refine z_a ?_ _ | refine z_s ?_ ?_ _ | refine z_t ?_ (by assumption)))); all_goals (simp <;> omega))⟩
 ·have HF : Hid (decide (l = m) = false) := hide (by simp only [decide_eq_false_iff_not]; intro e; exact hlen (by rw [e]))
  have hb0 : ((l.length : Int) != (m.length : Int)) = true := by simp; omega
  obtain ⟨n, hn⟩ : ∃ n, l.length = n := ⟨_, rfl⟩
  obtain ⟨n2, hn2⟩ : ∃ n, m.length = n := ⟨_, rfl⟩
  have hb1 : (n != n2) = true := by simp; omega
  rw [hn, hn2] at hb0 ⊢
  clear ha hb hlen hn hn2
  go_enter Tryz.func79, Tryz.ntmps79
  go_wp2
  go_ret
  exact ⟨by rw [HF.out] <;> rfl, (by (with_reducible (repeat' (first | exact z_r _ | assumption | refine z_d ?_ | refine z_n ?_ _ | refine z_a ?_ _ | refine z_s ?_ ?_ _ | refine z_t ?_ (by assumption)))); all_goals (simp <;> omega))⟩

/-- Rows of costs that are read. -/
def RowsU (w : World) (a : Option Addr) (ll : List (List Int)) : Prop := 0 < ll.length → ∃ b off, a = some ⟨b, off, none⟩ ∧ b < w.heap.size ∧ ∀ k (h : k < ll.length), ∃ sa sc, w.cell? ⟨b, off + k, none⟩ = some (.slice sa ll[k].length sc) ∧ RowU w sa ll[k]
theorem RowsU.ext {w w' : World} {a : Option Addr} {l : List (List Int)} (h : RowsU w a l) (e : Ext w w') : RowsU w' a l := fun h0 => by
 obtain ⟨b, off, ha, hb, hc⟩ := h h0
 exact ⟨b, off, ha, Nat.lt_of_lt_of_le hb e.size, fun k hk => by
  obtain ⟨sa, sc, h1, h2⟩ := hc k hk
  exact ⟨sa, sc, (e.cell (p := ⟨b, off + k, none⟩) hb).trans h1, h2.ext e⟩⟩

set_option maxRecDepth 100000 in
theorem equalRows_any (a b : Option Addr) (l m : List (List Int)) (c d : Nat) (w : World) (hl : l.length ≤ 1000000) (ha : RowsU w a l) (hb : RowsU w b m) (hs : ∀ r, r ∈ l → r.length ≤ 1000000) :
  Calls Tryz.prog 80 #[.slice a l.length c, .slice b m.length d, .func (.func 81) #[] #[]] w fun e w' => e = .returned (.bool (decide (l = m))) ∧ Ext w w' := by
 by_cases hlen : l.length = m.length
 ·have HS := hide hs
  have HA := hide ha
  have HB := hide hb
  have HLM := hide hlen
  obtain ⟨n, hn⟩ : ∃ n, l.length = n := ⟨_, rfl⟩
  have HN := hide hn
  rw [← hlen, hn]
  rw [hn] at hl
  clear ha hb hlen hn hs
  go_enter Tryz.func80, Tryz.ntmps80
  go_wp2_with fail
  go_loopw [17] (fun i wr => ∃ k : Nat, k ≤ n ∧ i = .int .i64 k ∧ l.take k = m.take k ∧ Ext w wr) (fun i _ => n - (intOf i).toNat)
  case atStart => exact ⟨0, Nat.zero_le _, rfl, rfl, (by (with_reducible (repeat' (first | exact z_r _ | assumption | refine z_d ?_ | refine z_n ?_ _ | refine z_a ?_ _ | refine z_s ?_ ?_ _ | refine z_t ?_ (by assumption)))); all_goals (simp <;> omega))⟩
  case round =>
   obtain ⟨k, hk, rfl, htk, hx⟩ := hrel
   have HT := hide htk
   have HX := hide hx
   clear htk hx
   by_cases hlt : k < n
   ·have h1 : k < l.length := by rw [HN.out]; exact hlt
    have h2 : k < m.length := by rw [← HLM.out]; exact h1
    obtain ⟨ba, oa, rfl, za, ca⟩ := HA.out (by omega)
    obtain ⟨bb, ob, rfl, zb, cb⟩ := HB.out (by omega)
    obtain ⟨sa, sca, c0, r0⟩ := ca k h1
    obtain ⟨sb, scb, c1, r1⟩ := cb k h2
    have d0 := (HX.out.cell (p := ⟨ba, oa + k, none⟩) za).trans c0
    have d1 := (HX.out.cell (p := ⟨bb, ob + k, none⟩) zb).trans c1
    have hl1 := HS.out l[k] (List.getElem_mem h1)
    have z0 : ba < wr.heap.size := Nat.lt_of_lt_of_le za HX.out.size
    have z1 : bb < wr.heap.size := Nat.lt_of_lt_of_le zb HX.out.size
    have jk : (k : Int) < (n : Int) := by omega
    have e1 : l[k]? = some l[k] := List.getElem?_eq_getElem h1
    have e2 : m[k]? = some m[k] := List.getElem?_eq_getElem h2
    obtain ⟨x, hx⟩ : ∃ x, l[k] = x := ⟨_, rfl⟩
    obtain ⟨y, hy⟩ : ∃ y, m[k] = y := ⟨_, rfl⟩
    rw [hx] at d0 e1 r0 hl1
    rw [hy] at d1 e2 r1
    have HI := hide (fun (w' : World) (hx : Ext wr w') => equalU64_any sa sb x y sca scb w' hl1 ((r0.ext HX.out).ext hx) ((r1.ext HX.out).ext hx))
    have E1 := hide e1
    have E2 := hide e2
    clear h1 h2 ca cb hx hy e1 e2 c0 c1 r0 r1 hl1
    by_cases hxy : x = y
    ·have HN1 : Hid (l.take (k + 1) = m.take (k + 1)) := hide (by rw [List.take_add_one, List.take_add_one, E1.out, E2.out, HT.out, hxy])
     have hb1 : decide (x = y) = true := by simpa using hxy
     rw [hb1] at HI
     clear hxy hb1
     go_wp2_with fail
     refine (HI.out _ (by (with_reducible (repeat' (first | exact z_r _ | assumption | refine z_d ?_ | refine z_n ?_ _ | refine z_a ?_ _ | refine z_s ?_ ?_ _ | refine z_t ?_ (by assumption)))); all_goals (simp <;> omega))).mono ?_
     rintro e w9 ⟨rfl, hb9⟩
     have hx := HX.out.trans (show Ext wr w9 from (by (with_reducible (repeat' (first | exact z_r _ | assumption | refine z_d ?_ | refine z_n ?_ _ | refine z_a ?_ _ | refine z_s ?_ ?_ _ | refine z_t ?_ (by assumption)))); all_goals (simp <;> omega)))
     go_wp2
     go_roundw
     case rel => exact ⟨k + 1, hlt, by go_num, HN1.out, (by (with_reducible (repeat' (first | exact z_r _ | assumption | refine z_d ?_ | refine z_n ?_ _ | refine z_a ?_ _ | refine z_s ?_ ?_ _ | refine z_t ?_ (by assumption)))); all_goals (simp <;> omega))⟩
     case measure => simp [intOf]; omega
    ·have HF : Hid (decide (l = m) = false) := hide (by simp only [decide_eq_false_iff_not]; intro e; rw [e, E2.out] at E1; exact hxy (Option.some.inj E1.out).symm)
     have hb1 : decide (x = y) = false := by simpa using hxy
     rw [hb1] at HI
     clear hxy hb1
     go_wp2_with fail
     refine (HI.out _ (by (with_reducible (repeat' (first | exact z_r _ | assumption | refine z_d ?_ | refine z_n ?_ _ | refine z_a ?_ _ | refine z_s ?_ ?_ _ | refine z_t ?_ (by assumption)))); all_goals (simp <;> omega))).mono ?_
     rintro e w9 ⟨rfl, hb9⟩
     have hx := HX.out.trans (show Ext wr w9 from (by (with_reducible (repeat' (first | exact z_r _ | assumption | refine z_d ?_ | refine z_n ?_ _ | refine z_a ?_ _ | refine z_s ?_ ?_ _ | refine z_t ?_ (by assumption)))); all_goals (simp <;> omega)))
     go_wp2
     go_ret
     exact ⟨by rw [HF.out] <;> rfl, (by (with_reducible (repeat' (first | exact z_r _ | assumption | refine z_d ?_ | refine z_n ?_ _ | refine z_a ?_ _ | refine z_s ?_ ?_ _ | refine z_t ?_ (by assumption)))); all_goals (simp <;> omega))⟩
   ·obtain rfl : n = k := by omega
    have HF : Hid (decide (l = m) = true) := hide (by
     have h := HT.out
     rw [List.take_of_length_le (by rw [HN.out]; exact Nat.le_refl _), List.take_of_length_le (by rw [← HLM.out, HN.out]; exact Nat.le_refl _)] at h
     simpa using h)
    have hx := HX.out
    go_wp2
    go_ret
    exact ⟨by rw [HF.out] <;> rfl, (by (with_reducible (repeat' (first | exact z_r _ | assumption | refine z_d ?_ | refine z_n ?_ _ | refine z_a ?_ _ | refine z_s ?_ ?_ _ | refine z_t ?_ (by assumption)))); all_goals (simp <;> omega))⟩
 ·have HF : Hid (decide (l = m) = false) := hide (by simp only [decide_eq_false_iff_not]; intro e; exact hlen (by rw [e]))
  have hb0 : ((l.length : Int) != (m.length : Int)) = true := by simp; omega
  obtain ⟨n, hn⟩ : ∃ n, l.length = n := ⟨_, rfl⟩
  obtain ⟨n2, hn2⟩ : ∃ n, m.length = n := ⟨_, rfl⟩
  have hb1 : (n != n2) = true := by simp; omega
  rw [hn, hn2] at hb0 ⊢
  clear ha hb hlen hn hn2 hs
  go_enter Tryz.func80, Tryz.ntmps80
  go_wp2
  go_ret
  exact ⟨by rw [HF.out] <;> rfl, (by (with_reducible (repeat' (first | exact z_r _ | assumption | refine z_d ?_ | refine z_n ?_ _ | refine z_a ?_ _ | refine z_s ?_ ?_ _ | refine z_t ?_ (by assumption)))); all_goals (simp <;> omega))⟩

set_option maxRecDepth 100000 in
theorem iSame_any (a b ra rb : Option Addr) (l m : List Cell) (ll mm : List (List Int)) (c d e1 e2 : Nat) (w : World) (hl : l.length ≤ 1000000) (ha : RowC w a l) (hb : RowC w b m) (hll : ll.length ≤ 1000000) (hra : RowsU w ra ll) (hrb : RowsU w rb mm) (hs : ∀ r, r ∈ ll → r.length ≤ 1000000) :
  Calls Tryz.prog 34 #[.agg #[.slice a l.length c, .slice ra ll.length e1], .agg #[.slice b m.length d, .slice rb mm.length e2]] w fun e w' => e = .returned (.bool (decide (l = m) && decide (ll = mm))) ∧ Ext w w' := by
 have H1 := hide (fun (w' : World) (hx : Ext w w') => equalCell_any a b l m c d w' hl (ha.ext hx) (hb.ext hx))
 have H2 := hide (fun (w' : World) (hx : Ext w w') => equalRows_any ra rb ll mm e1 e2 w' hll (hra.ext hx) (hrb.ext hx) hs)
 generalize decide (l = m) = p at *
 generalize decide (ll = mm) = q at *
 obtain ⟨n1, h1⟩ : ∃ z, l.length = z := ⟨_, rfl⟩
 obtain ⟨n2, h2⟩ : ∃ z, m.length = z := ⟨_, rfl⟩
 obtain ⟨n3, h3⟩ : ∃ z, ll.length = z := ⟨_, rfl⟩
 obtain ⟨n4, h4⟩ : ∃ z, mm.length = z := ⟨_, rfl⟩
 rw [h1, h2] at H1
 rw [h3, h4] at H2
 rw [h1, h2, h3, h4]
 clear ha hb hra hrb hs hl hll h1 h2 h3 h4
 cases p
 ·go_enter Tryz.func34, Tryz.ntmps34
  go_wp2_with fail
  refine (H1.out _ (by (with_reducible (repeat' (first | exact z_r _ | assumption | refine z_d ?_ | refine z_n ?_ _ | refine z_a ?_ _ | refine z_s ?_ ?_ _ | refine z_t ?_ (by assumption)))); all_goals (simp <;> omega))).mono ?_
  rintro e w1 ⟨rfl, hb1⟩
  go_wp2_with fail
  go_ret
  exact ⟨rfl, (by (with_reducible (repeat' (first | exact z_r _ | assumption | refine z_d ?_ | refine z_n ?_ _ | refine z_a ?_ _ | refine z_s ?_ ?_ _ | refine z_t ?_ (by assumption)))); all_goals (simp <;> omega))⟩
 ·go_enter Tryz.func34, Tryz.ntmps34
  go_wp2_with fail
  refine (H1.out _ (by (with_reducible (repeat' (first | exact z_r _ | assumption | refine z_d ?_ | refine z_n ?_ _ | refine z_a ?_ _ | refine z_s ?_ ?_ _ | refine z_t ?_ (by assumption)))); all_goals (simp <;> omega))).mono ?_
  rintro e w1 ⟨rfl, hb1⟩
  obtain ⟨hc1, hf1⟩ := hb1.cells; have hz1 := hb1.size; (repeat (first | rw [World.size_alloc] at hz1 | rw [World.size_drew] at hz1)); have z1_0 : w.heap.size < w1.heap.size := (by omega); have z1_1 : w.heap.size + 1 < w1.heap.size := (by omega)
  go_wp2_with fail
  refine (H2.out _ (by (with_reducible (repeat' (first | exact z_r _ | assumption | refine z_d ?_ | refine z_n ?_ _ | refine z_a ?_ _ | refine z_s ?_ ?_ _ | refine z_t ?_ (by assumption)))); all_goals (simp <;> omega))).mono ?_
  rintro e w2 ⟨rfl, hb2⟩
  go_wp2_with fail
  go_ret
  exact ⟨by cases q <;> rfl, (by (with_reducible (repeat' (first | exact z_r _ | assumption | refine z_d ?_ | refine z_n ?_ _ | refine z_a ?_ _ | refine z_s ?_ ?_ _ | refine z_t ?_ (by assumption)))); all_goals (simp <;> omega))⟩

def awI : List Int := [1, 5, 1, 1, 1, 1, 1, 1]
theorem awI_u16 : U16s awI := by intro x hx; simp [awI] at hx; omega
theorem awI_box : boxL 4 2 2 0 awI := boxL_of (by decide) (by decide) ⟨by decide, by decide⟩ awI_u16
def awIN : Net := mapNet (W := 4) (H := 2) (l := awI) awI_box
def tabF (t : List Int) (v : Nat) : Int := t.getD v infI
def tabOk (s : Nat) (t : List Int) : Bool :=
 decide (t.length = 8) && decide (tabF t s = 0) && (List.range 8).all (fun v => (awIN.op v || decide (tabF t v = infI)) && decide (0 ≤ tabF t v) && decide (tabF t v ≤ infI) &&
  (!awIN.op v || decide (v = s) || ((awIN.adj v).all (fun u => !awIN.op u || decide (infI ≤ tabF t u + awIN.cost v) || decide (tabF t v ≤ tabF t u + awIN.cost v)) && (decide (infI ≤ tabF t v) || (awIN.adj v).any (fun u => awIN.op u && decide (tabF t u + awIN.cost v = tabF t v))))))
theorem tab_far {s : Nat} {t : List Int} (h : tabOk s t = true) : IsFar awIN s (tabF t) := by
 unfold tabOk at h
 simp only [Bool.and_eq_true, decide_eq_true_eq, List.all_eq_true, List.mem_range] at h
 obtain ⟨⟨h8, h0⟩, ha⟩ := h
 have hbig : ∀ v, 8 ≤ v → tabF t v = infI := fun v hv => by
  unfold tabF
  rw [List.getD_eq_getElem?_getD, List.getElem?_eq_none (by omega)]
  rfl
 have hlt : ∀ v, awIN.op v = true → v < 8 := fun v hv => awIN.lt v hv
 refine ⟨fun _ => h0, ?_, ?_, ?_, ?_, ?_⟩
 ·intro v hv
  by_cases h : v < 8
  ·have := (ha v h).1.1.1
   rw [hv] at this
   simpa using this
  ·exact hbig v (by omega)
 ·intro v
  by_cases h : v < 8
  ·exact (ha v h).1.1.2
  ·rw [hbig v (by omega)]; decide
 ·intro v
  by_cases h : v < 8
  ·exact (ha v h).1.2
  ·rw [hbig v (by omega)]; exact Int.le_refl _
 ·intro v hv hs u hu huo hl
  have h1 := (ha v (hlt v hv)).2
  rw [hv] at h1
  simp only [Bool.not_true, Bool.false_or, Bool.or_eq_true, decide_eq_true_eq, Bool.and_eq_true, List.all_eq_true] at h1
  rcases h1 with h1 | h1
  ·exact absurd h1 hs
  ·rcases h1.1 u hu with (h2 | h2) | h2
   ·rw [huo] at h2; cases h2
   ·omega
   ·exact h2
 ·intro v hv hs hl
  have h1 := (ha v (hlt v hv)).2
  rw [hv] at h1
  simp only [Bool.not_true, Bool.false_or, Bool.or_eq_true, decide_eq_true_eq, Bool.and_eq_true, List.any_eq_true] at h1
  rcases h1 with h1 | h1
  ·exact absurd h1 hs
  ·rcases h1.2 with h2 | ⟨u, u1, u2, u3⟩
   ·omega
   ·exact ⟨u, u1, u2, u3⟩
theorem tab_row {c : Cell} {t : List Int} (h : tabOk (idxN 4 c) t = true) (q : Cell) : farD (W := 4) (H := 2) (l := awI) awI_box c (idxN 4 q) = tabF t (idxN 4 q) := (farD_one (W := 4) (H := 2) (l := awI) awI_box (tab_far h) _).symm
def big : Int := 18446744073709551615
theorem tab0 : tabOk 0 [0, 5, big, big, 1, 2, big, big] = true := by decide +kernel
theorem tab1 : tabOk 1 [1, 0, big, big, 2, 1, big, big] = true := by decide +kernel
theorem tab4 : tabOk 4 [1, 6, big, big, 0, 1, big, big] = true := by decide +kernel
theorem tab5 : tabOk 5 [2, 5, big, big, 1, 0, big, big] = true := by decide +kernel
def awC : List Cell := [(0, 0), (1, 0), (1, 1)]
theorem aw_rows : awC.map (rowD (W := 4) (H := 2) (l := awI) awI_box awC) = [[0, 5, 2], [1, 0, 1], [2, 5, 0]] := by
 have h0 := tab_row (c := (0, 0)) tab0
 have h1 := tab_row (c := (1, 0)) tab1
 have h5 := tab_row (c := (1, 1)) tab5
 simp only [awC, List.map_cons, List.map_nil, rowD, h0, h1, h5]
 decide
theorem aw_to : rowD (W := 4) (H := 2) (l := awI) awI_box awC (0, 1) = [1, 6, 1] := by
 have h4 := tab_row (c := (0, 1)) tab4
 simp only [awC, List.map_cons, List.map_nil, rowD, h4]
 decide
theorem aw_back : awC.map (fun q => farD (W := 4) (H := 2) (l := awI) awI_box q (idxN 4 (0, 1))) = [1, 2, 1] := by
 have h0 := tab_row (c := (0, 0)) tab0
 have h1 := tab_row (c := (1, 0)) tab1
 have h5 := tab_row (c := (1, 1)) tab5
 simp only [awC, List.map_cons, List.map_nil, h0, h1, h5]
 decide
theorem aw_inner : innerE 4 2 awI.length 4 2 2 0 awC = 0 := by decide
theorem aw_toE : toE 4 2 awI.length 4 2 2 0 awC (0, 1) = 0 := by decide

theorem rowsU_of {w : World} {base : Nat} {v : Value} {ll : List (List Int)} (h : RowsAt w base v ll) : ∃ a c, v = .slice a ll.length c ∧ RowsU w a ll := by
 obtain ⟨ss, h1, h2, h3⟩ := h
 obtain ⟨a, c, hv⟩ := h1.slice
 subst hv
 refine ⟨a, c, by rw [h2], fun h0 => ?_⟩
 rcases h1.2 with ⟨_, hz⟩ | ⟨g, cap, cur, hv, _⟩
 ·omega
 ·injection hv with ha hb hc
  subst ha
  have hrd := Reads.cells h1.reads
  refine ⟨g, 0, rfl, hrd.1, fun k hk => ?_⟩
  have hks : k < ss.length := by omega
  have hown := h3 k ss[k] ll[k] (List.getElem?_eq_getElem hks) (List.getElem?_eq_getElem hk)
  have hcell := hrd.2.2 k ss[k] (List.getElem?_eq_getElem hks) 0 (.slice ss[k].1 ss[k].2.1 ss[k].2.2) rfl
  have hru := Reads.rowU hown.reads
  refine ⟨ss[k].1, ss[k].2.2, ?_, hru.2⟩
  rw [← hru.1]
  simpa [sliceE] using hcell
theorem RowsAt.u {w : World} {base n c : Nat} {a : Option Addr} {ll : List (List Int)} (h : RowsAt w base (.slice a n c) ll) : RowsU w a ll := by
 obtain ⟨x, y, e, h2⟩ := rowsU_of h
 cases e
 exact h2

theorem row8 {w : World} {b : Nat} {a0 a1 a2 a3 a4 a5 a6 a7 : Int} (h : Blk w b 83 #[.int .u16 a0, .int .u16 a1, .int .u16 a2, .int .u16 a3, .int .u16 a4, .int .u16 a5, .int .u16 a6, .int .u16 a7]) : Row16 w (some ⟨b, 0, none⟩) [a0, a1, a2, a3, a4, a5, a6, a7] := fun _ => by
 refine ⟨b, 0, rfl, h.lt, fun k hk => ?_⟩
 have hk6 : k < 8 := hk
 obtain rfl | rfl | rfl | rfl | rfl | rfl | rfl | rfl : k = 0 ∨ k = 1 ∨ k = 2 ∨ k = 3 ∨ k = 4 ∨ k = 5 ∨ k = 6 ∨ k = 7 := by omega
 ·exact h.at 0 rfl
 ·exact h.at 1 rfl
 ·exact h.at 2 rfl
 ·exact h.at 3 rfl
 ·exact h.at 4 rfl
 ·exact h.at 5 rfl
 ·exact h.at 6 rfl
 ·exact h.at 7 rfl
theorem rowc3 {w : World} {b : Nat} {a0 a1 a2 b0 b1 b2 : Int} (h : Blk w b 69 #[.int .i64 a0, .int .i64 b0, .int .i64 a1, .int .i64 b1, .int .i64 a2, .int .i64 b2]) : RowC w (some ⟨b, 0, none⟩) [(a0, b0), (a1, b1), (a2, b2)] := fun _ => by
 refine ⟨b, 0, rfl, h.lt, fun k hk => ?_⟩
 have hk6 : k < 3 := hk
 obtain rfl | rfl | rfl : k = 0 ∨ k = 1 ∨ k = 2 := by omega
 ·exact ⟨h.at 0 rfl, h.at 1 rfl⟩
 ·exact ⟨h.at 2 rfl, h.at 3 rfl⟩
 ·exact ⟨h.at 4 rfl, h.at 5 rfl⟩
theorem rowu3 {w : World} {b : Nat} {a0 a1 a2 : Int} (h : Blk w b 87 #[.int .u64 a0, .int .u64 a1, .int .u64 a2]) : RowU w (some ⟨b, 0, none⟩) [a0, a1, a2] := fun _ => by
 refine ⟨b, 0, rfl, h.lt, fun k hk => ?_⟩
 have hk6 : k < 3 := hk
 obtain rfl | rfl | rfl : k = 0 ∨ k = 1 ∨ k = 2 := by omega
 ·exact h.at 0 rfl
 ·exact h.at 1 rfl
 ·exact h.at 2 rfl
theorem rowsu3 {w : World} {b b0 b1 b2 : Nat} {x y z : List Int} (hx : x.length = 3) (hy : y.length = 3) (hz : z.length = 3) (h : Blk w b 86 #[.slice (some ⟨b0, 0, none⟩) 3 3, .slice (some ⟨b1, 0, none⟩) 3 3, .slice (some ⟨b2, 0, none⟩) 3 3]) (h0 : RowU w (some ⟨b0, 0, none⟩) x) (h1 : RowU w (some ⟨b1, 0, none⟩) y) (h2 : RowU w (some ⟨b2, 0, none⟩) z) : RowsU w (some ⟨b, 0, none⟩) [x, y, z] := fun _ => by
 refine ⟨b, 0, rfl, h.lt, fun k hk => ?_⟩
 have hk6 : k < 3 := hk
 obtain rfl | rfl | rfl : k = 0 ∨ k = 1 ∨ k = 2 := by omega
 ·exact ⟨_, 3, by simp only [List.getElem_cons_zero, hx]; exact h.at 0 rfl, h0⟩
 ·exact ⟨_, 3, by simp only [List.getElem_cons_succ, List.getElem_cons_zero, hy]; exact h.at 1 rfl, h1⟩
 ·exact ⟨_, 3, by simp only [List.getElem_cons_succ, List.getElem_cons_zero, hz]; exact h.at 2 rfl, h2⟩
theorem awC_in : ∀ p ∈ awC, InI p.1 ∧ InI p.2 := by
 intro p hp
 simp only [awC, List.mem_cons, List.not_mem_nil, or_false] at hp
 rcases hp with rfl | rfl | rfl <;> (unfold InI; decide)
end Go.Proofs.YtkioohhjjdlhiaaGreat
