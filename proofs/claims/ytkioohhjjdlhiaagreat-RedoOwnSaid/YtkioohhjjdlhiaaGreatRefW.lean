/- The reference's world, as it stands in memory; The small functions of the law on worlds: which may be; a field, gates, a table against the reference's; Is a world the reference's?; The reference's New: a field's world, made as a whole -/
import Derived.Test.YtkioohhjjdlhiaaGreatRedJ
import Derived.Test.YtkioohhjjdlhiaaGreatRefO
import Derived.Test.YtkioohhjjdlhiaaGreatRefL
import Derived.Test.YtkioohhjjdlhiaaGreatInO
import Derived.Test.YtkioohhjjdlhiaaGreatCellsF
set_option linter.all false
set_option linter.unusedVariables false
set_option linter.unusedSimpArgs false
namespace Go.Proofs.YtkioohhjjdlhiaaGreat
open Go.RowKit

theorem T_tabs13 : ElemT Tryz.prog 54 139 (.agg #[.slice none 0 0, .slice none 0 0]) 2 48 := ⟨Tryz.underlying54, by kernel_rfl, rfl, by decide⟩

/-- All tables of a field's world. -/
noncomputable def tabsA (W H s : Int) (l : List Int) (N : Nat) : List Tab := (List.range N).map fun i : Nat => tabA W H s l (i : Int)
theorem tabsA_len (W H s : Int) (l : List Int) (N : Nat) : (tabsA W H s l N).length = N := by simp [tabsA]
theorem tabsA_at {W H s : Int} {l : List Int} {N k : Nat} (h : k < N) : (tabsA W H s l N)[k]? = some (tabA W H s l (k : Int)) := by
 unfold tabsA; rw [List.getElem?_map, List.getElem?_range h]; rfl
theorem tabsA_succ (W H s : Int) (l : List Int) (N : Nat) : tabsA W H s l (N + 1) = tabsA W H s l N ++ [tabA W H s l (N : Int)] := by
 unfold tabsA; rw [List.range_succ, List.map_append]; rfl

/-- Where the reference's world lies: its block, its field's row, its boxes, gates and tables. -/
structure RSpot where
 b : Nat
 a : Option Addr
 c : Nat
 bv : Value
 gv : Value
 tg : Nat
 tc : Nat
def refCells (q : RSpot) (W H s : Int) (n N : Nat) : Array Value := #[.int .i64 W, .int .i64 H, .slice q.a n q.c, .int .i64 s, q.bv, q.gv, .slice (some ⟨q.tg, 0, none⟩) N q.tc]
structure RefS (w : World) (q : RSpot) (R : Nat → Prop) (W H s : Int) (l : List Int) (N : Nat) : Prop where
 good : Good W H s l
 num : (N : Int) = cnt W H s
 blk : Blk w q.b 56 (refCells q W H s l.length N)
 row : Row16 w q.a l
 boxes : Own pairE w 0 117 q.bv (boxesAll W H s)
 gates : Own pairE w 0 179 q.gv (gatesA W H s l)
 tabs : ∃ ts, Own tabE w 0 139 (.slice (some ⟨q.tg, 0, none⟩) N q.tc) ts ∧ TabsR R w ts (tabsA W H s l N)
 inB : R q.b
 inA : ∀ g off, q.a = some ⟨g, off, none⟩ → R g
 inBx : InR R q.bv
 inG : InR R q.gv
 inT : R q.tg
theorem RefS.touch {w w' : World} {q : RSpot} {R S : Nat → Prop} {W H s : Int} {l : List Int} {N : Nat} (h : RefS w q R W H s l N) (t : Touch S w w') (hs : ∀ k, R k → ¬ S k) : RefS w' q R W H s l N where
 good := h.good
 num := h.num
 blk := h.blk.touch t (hs _ h.inB)
 row := h.row.touch t fun b off e => hs _ (h.inA b off e)
 boxes := h.boxes.touch t fun k hk => hs _ (h.inBx k hk)
 gates := h.gates.touch t fun k hk => hs _ (h.inG k hk)
 tabs := by
  obtain ⟨ts, h1, h2⟩ := h.tabs
  exact ⟨ts, h1.touch t fun k hk => hs _ (by have := own_blk hk; rw [← this]; exact h.inT), h2.touch t hs⟩
 inB := h.inB
 inA := h.inA
 inBx := h.inBx
 inG := h.inG
 inT := h.inT
theorem RefS.ext {w w' : World} {q : RSpot} {R : Nat → Prop} {W H s : Int} {l : List Int} {N : Nat} (h : RefS w q R W H s l N) (x : Ext w w') : RefS w' q R W H s l N :=
 h.touch (Touch.of_ext (S := fun _ => False) x) (fun _ _ h => h)

/-- The reference's world is a field's. -/
def RefAt (w : World) (q : RSpot) (R : Nat → Prop) (W H s : Int) (l : List Int) : Prop := RefS w q R W H s l (cnt W H s).toNat

/-- A value that stands in memory as one cell of a table. -/
theorem own_box_at {w : World} {base n c : Nat} {e : TypeId} {a : Option Addr} {l : List (Cell × Cell)} {j : Nat} {q : Cell × Cell} (h : Own pairE w base e (.slice a n c) l) (hj : l[j]? = some q) :
  ∃ g, a = some ⟨g, 0, none⟩ ∧ g < w.heap.size ∧ w.cell? ⟨g, j * 4, none⟩ = some (.int .i64 q.1.1) ∧ w.cell? ⟨g, j * 4 + 1, none⟩ = some (.int .i64 q.1.2) ∧ w.cell? ⟨g, j * 4 + 2, none⟩ = some (.int .i64 q.2.1) ∧ w.cell? ⟨g, j * 4 + 3, none⟩ = some (.int .i64 q.2.2) := own_gate_at h hj

set_option maxRecDepth 100000 in
theorem r14May_any {w : World} (W H : Int) (a : Option Addr) (n c : Nat) (s : Int) :
  Calls Tryz.prog 17 #[.agg #[.int .i64 W, .int .i64 H, .slice a n c], .int .i64 s] w fun e w' => e = .returned (.int .i64 (newE W H n s)) ∧ Ext w w' := by
 have H1 := hide (fun w' => r04Check_any W H a n c w')
 have H2 := hide (fun w' => rRight_any W H s w')
 by_cases h0 : checkE W H n = 0
 ·rw [h0] at H1
  by_cases h1 : rightB W H s = true
  ·rw [h1] at H2
   have he : newE W H n s = 0 := by unfold newE; rw [if_pos h0, if_pos h1]
   rw [he]
   clear h0 h1 he
   go_enter Tryz.func17, Tryz.ntmps17
   go_wp2_with (first
    | (go_at_call 60; refine (H1.out _).mono ?_; rintro e w1 ⟨rfl, hb1⟩; obtain ⟨hc1, hf1⟩ := hb1.cells; have hz1 := hb1.size; (repeat (first | rw [World.size_alloc] at hz1 | rw [World.size_drew] at hz1)); have z1_0 : w.heap.size < w1.heap.size := (by omega))
    | (go_at_call 61; refine (H2.out _).mono ?_; rintro e w2 ⟨rfl, hb2⟩; obtain ⟨hc2, hf2⟩ := hb2.cells; have hz2 := hb2.size; (repeat (first | rw [World.size_alloc] at hz2 | rw [World.size_drew] at hz2)); have z2_0 : w.heap.size < w2.heap.size := (by omega)))
   go_ret
   exact ⟨rfl, (by (with_reducible (repeat' (first | exact z_r _ | assumption | refine z_d ?_ | refine z_n ?_ _ | refine z_a ?_ _ | refine z_s ?_ ?_ _ | refine z_t ?_ (by assumption)))); all_goals (simp <;> omega))⟩
  ·have h1 : rightB W H s = false := by simpa using h1
   rw [h1] at H2
   have he : newE W H n s = 10 := by unfold newE; rw [if_pos h0, if_neg (by rw [h1]; simp)]
   rw [he]
   clear h0 h1 he
   go_enter Tryz.func17, Tryz.ntmps17
   go_wp2_with (first
    | (go_at_call 60; refine (H1.out _).mono ?_; rintro e w1 ⟨rfl, hb1⟩; obtain ⟨hc1, hf1⟩ := hb1.cells; have hz1 := hb1.size; (repeat (first | rw [World.size_alloc] at hz1 | rw [World.size_drew] at hz1)); have z1_0 : w.heap.size < w1.heap.size := (by omega))
    | (go_at_call 61; refine (H2.out _).mono ?_; rintro e w2 ⟨rfl, hb2⟩; obtain ⟨hc2, hf2⟩ := hb2.cells; have hz2 := hb2.size; (repeat (first | rw [World.size_alloc] at hz2 | rw [World.size_drew] at hz2)); have z2_0 : w.heap.size < w2.heap.size := (by omega)))
   go_ret
   exact ⟨rfl, (by (with_reducible (repeat' (first | exact z_r _ | assumption | refine z_d ?_ | refine z_n ?_ _ | refine z_a ?_ _ | refine z_s ?_ ?_ _ | refine z_t ?_ (by assumption)))); all_goals (simp <;> omega))⟩
 ·have he : newE W H n s = checkE W H n := by unfold newE; rw [if_neg h0]
  rw [he]
  generalize checkE W H n = er at *
  have hq : (er == 0) = false := by simpa using h0
  clear h0 he
  go_enter Tryz.func17, Tryz.ntmps17
  go_wp2_with (go_at_call 60; refine (H1.out _).mono ?_; rintro e w1 ⟨rfl, hb1⟩; obtain ⟨hc1, hf1⟩ := hb1.cells; have hz1 := hb1.size; (repeat (first | rw [World.size_alloc] at hz1 | rw [World.size_drew] at hz1)); have z1_0 : w.heap.size < w1.heap.size := (by omega))
  go_ret
  exact ⟨rfl, (by (with_reducible (repeat' (first | exact z_r _ | assumption | refine z_d ?_ | refine z_n ?_ _ | refine z_a ?_ _ | refine z_s ?_ ?_ _ | refine z_t ?_ (by assumption)))); all_goals (simp <;> omega))⟩

theorem field14_yes (W H : Int) (a b : Option Addr) (l : List Int) (n c d : Nat) (w : World) (hn : l.length = n) (hl : n ≤ 1000000) (ha : Row16 w a l) (hb : Row16 w b l) :
  Calls Tryz.prog 62 #[.agg #[.int .i64 W, .int .i64 H, .slice a n c], .agg #[.int .i64 W, .int .i64 H, .slice b n d]] w fun e w' => e = .returned (.bool true) ∧ Ext w w' := by
 have heq := fun w => eq_size W H W H w
 simp only [beq_self_eq_true, Bool.and_self] at heq
 have HA := hide ha
 have HB := hide hb
 have HN := hide hn
 clear ha hb hn
 go_enter Tryz.func62, Tryz.ntmps62
 go_wp2_with fail
 obtain ⟨w2, hw2⟩ : ∃ z, z = (w.alloc (.cells #[.int .i64 W, .int .i64 H, .slice a n c] 26)).alloc (.cells #[.int .i64 W, .int .i64 H, .slice b n d] 26) := ⟨_, rfl⟩
 have X2 := hide (show Ext w w2 by rw [hw2]; exact ((Ext.refl _).alloc _).alloc _)
 have B1 := hide (show Blk w2 w.heap.size 26 #[.int .i64 W, .int .i64 H, .slice a n c] by rw [hw2]; exact (Blk.new_ rfl).over)
 have B2 := hide (show Blk w2 (w.heap.size + 1) 26 #[.int .i64 W, .int .i64 H, .slice b n d] by rw [hw2]; exact Blk.new_ (by simp))
 rw [← hw2]
 clear hw2
 go_loopw [5] (fun i wr => ∃ k : Nat, k ≤ n ∧ i = .int .i64 (k : Int) ∧ Ext w2 wr) (fun i _ => n - (intOf i).toNat)
 case atStart => exact ⟨0, Nat.zero_le _, rfl, Ext.refl _⟩
 case round =>
  obtain ⟨k, hk, rfl, hx⟩ := hrel
  have HX := hide hx
  have C1 := hide (B1.out.ext hx)
  have C2 := hide (B2.out.ext hx)
  have zr := hx.size
  clear hx
  have x0 := C1.out.at 0 rfl; have x1 := C1.out.at 1 rfl; have x2 := C1.out.at 2 rfl; have xz := C1.out.lt
  have y0 := C2.out.at 0 rfl; have y1 := C2.out.at 1 rfl; have y2 := C2.out.at 2 rfl; have yz := C2.out.lt
  by_cases hlt : k < n
  ·have hkl : k < l.length := by rw [HN.out]; exact hlt
   obtain ⟨ba, oa, rfl, za, ca⟩ := HA.out (by omega)
   obtain ⟨bb, ob, rfl, zb, cb⟩ := HB.out (by omega)
   have d0 := ((X2.out.trans HX.out).cell (p := ⟨ba, oa + k, none⟩) za).trans (ca k hkl)
   have d1 := ((X2.out.trans HX.out).cell (p := ⟨bb, ob + k, none⟩) zb).trans (cb k hkl)
   have z0 := X2.out.size
   have z1 : ba < wr.heap.size := by omega
   have z2 : bb < wr.heap.size := by omega
   have jk : (k : Int) < (n : Int) := by omega
   generalize l[k] = v at d0 d1
   clear ca cb hkl
   go_wp2_with fail
   go_quiet (fail)
   go_wp2_with fail
   go_roundw
   case rel => exact ⟨k + 1, by omega, by go_num, HX.out.drewN _⟩
   case measure => simp [intOf]; omega
  ·obtain rfl : n = k := by omega
   go_wp2_with fail
   go_ret
   exact ⟨rfl, X2.out.trans HX.out⟩

theorem gates14_zero (a b : Option Addr) (c d : Nat) (w : World) : Calls Tryz.prog 63 #[.slice a 0 c, .slice b 0 d] w fun e w' => e = .returned (.bool true) ∧ Ext w w' := by
 go_enter Tryz.func63, Tryz.ntmps63
 go_wp2
 go_loopw [5] (fun i wr => i = .int .i64 0 ∧ Ext w wr) (fun _ _ => 0)
 case atStart => exact ⟨rfl, (by (with_reducible (repeat' (first | exact z_r _ | assumption | refine z_d ?_ | refine z_n ?_ _ | refine z_a ?_ _ | refine z_s ?_ ?_ _ | refine z_t ?_ (by assumption)))); all_goals (simp <;> omega))⟩
 case round =>
  obtain ⟨rfl, hext⟩ := hrel
  go_wp2
  go_ret
  exact ⟨rfl, (by (with_reducible (repeat' (first | exact z_r _ | assumption | refine z_d ?_ | refine z_n ?_ _ | refine z_a ?_ _ | refine z_s ?_ ?_ _ | refine z_t ?_ (by assumption)))); all_goals (simp <;> omega))⟩

set_option maxHeartbeats 400000 in
theorem gates14_rows (b off c b' off' c' : Nat) (l : List (Cell × Cell)) (w : World) (hl : l.length ≤ 1000000) (hb : b < w.heap.size) (hb' : b' < w.heap.size) (h1 : PairsAt w b off l) (h2 : PairsAt w b' off' l) :
  Calls Tryz.prog 63 #[.slice (some ⟨b, off, none⟩) l.length c, .slice (some ⟨b', off', none⟩) l.length c'] w fun e w' => e = .returned (.bool true) ∧ Ext w w' := by
 have H1 := hide h1
 have H2 := hide h2
 clear h1 h2
 go_enter Tryz.func63, Tryz.ntmps63
 go_wp2
 go_loopw [5] (fun i wr => ∃ k : Nat, k ≤ l.length ∧ i = .int .i64 k ∧ Ext w wr) (fun i _ => l.length - (intOf i).toNat)
 case atStart => exact ⟨0, Nat.zero_le _, rfl, (by (with_reducible (repeat' (first | exact z_r _ | assumption | refine z_d ?_ | refine z_n ?_ _ | refine z_a ?_ _ | refine z_s ?_ ?_ _ | refine z_t ?_ (by assumption)))); all_goals (simp <;> omega))⟩
 case round =>
  obtain ⟨k, hk, rfl, hext⟩ := hrel
  by_cases hlt : k < l.length
  ·obtain ⟨d1, d2, d3, d4⟩ := (H1.out.ext hb hext) k hlt
   obtain ⟨e1, e2, e3, e4⟩ := (H2.out.ext hb' hext) k hlt
   generalize l[k] = p at *
   have hq1 : ∀ w, (Op.equalIn 10000 69 (.agg #[.int .i64 p.1.1, .int .i64 p.1.2]) (.agg #[.int .i64 p.1.1, .int .i64 p.1.2])).run Tryz.prog w = .ok true w := fun w => by rw [eq_cell p.1 p.1 w]; simp [cellB]
   have hq2 : ∀ w, (Op.equalIn 10000 69 (.agg #[.int .i64 p.2.1, .int .i64 p.2.2]) (.agg #[.int .i64 p.2.1, .int .i64 p.2.2])).run Tryz.prog w = .ok true w := fun w => by rw [eq_cell p.2 p.2 w]; simp [cellB]
   go_wp2
   go_quiet (fail)
   go_wp2
   go_roundw
   case rel => exact ⟨k + 1, by omega, by go_num, (by (with_reducible (repeat' (first | exact z_r _ | assumption | refine z_d ?_ | refine z_n ?_ _ | refine z_a ?_ _ | refine z_s ?_ ?_ _ | refine z_t ?_ (by assumption)))); all_goals (simp <;> omega))⟩
   case measure => simp [intOf]; omega
  ·go_wp2
   go_ret
   exact ⟨rfl, (by (with_reducible (repeat' (first | exact z_r _ | assumption | refine z_d ?_ | refine z_n ?_ _ | refine z_a ?_ _ | refine z_s ?_ ?_ _ | refine z_t ?_ (by assumption)))); all_goals (simp <;> omega))⟩

theorem gates14_yes (va vb : Value) (l : List (Cell × Cell)) (w : World) (hl : l.length ≤ 1000000) (ha : Reads pairE w va l) (hb : Reads pairE w vb l) :
  Calls Tryz.prog 63 #[va, vb] w fun e w' => e = .returned (.bool true) ∧ Ext w w' := by
 by_cases h0 : l.length = 0
 ·obtain ⟨a, c, rfl⟩ := ha.slice
  obtain ⟨b, d, rfl⟩ := hb.slice
  rw [h0]
  exact gates14_zero a b c d w
 ·rcases ha with ⟨rfl, rfl⟩ | ⟨b, off, c, rfl, hb1, hc⟩
  ·simp at h0
  ·rcases hb with ⟨rfl, rfl⟩ | ⟨b', off', c', rfl, hb2, hc'⟩
   ·simp at h0
   ·have i1 := (Reads.pairs (.inr ⟨b, off, c, rfl, hb1, hc⟩ : Reads pairE w (.slice (some ⟨b, off, none⟩) l.length c) l)).2
    have i2 := (Reads.pairs (.inr ⟨b', off', c', rfl, hb2, hc'⟩ : Reads pairE w (.slice (some ⟨b', off', none⟩) l.length c') l)).2
    exact gates14_rows b off c b' off' c' l w hl hb1 hb2 i1 i2

theorem table14_yes (a b ra rb : Option Addr) (t : Tab) (n m c d e1 e2 : Nat) (w : World) (hn : t.1.length = n) (hm : t.2.length = m) (hn2 : n ≤ 1000000) (hm2 : m ≤ 1000000) (hs : ∀ r ∈ t.2, r.length ≤ 1000000) (ha : RowC w a t.1) (hb : RowC w b t.1) (hra : RowsU w ra t.2) (hrb : RowsU w rb t.2) :
  Calls Tryz.prog 64 #[.agg #[.slice a n c, .slice ra m d], .agg #[.slice b n e1, .slice rb m e2]] w fun e w' => e = .returned (.bool true) ∧ Ext w w' := by
 have HS : Hid (∀ w', Ext w w' → Calls Tryz.prog 34 #[.agg #[.slice a n c, .slice ra m d], .agg #[.slice b n e1, .slice rb m e2]] w' fun e w'' => e = .returned (.bool true) ∧ Ext w' w'') := hide (fun w' x => by
  have h := iSame_any a b ra rb t.1 t.1 t.2 t.2 c e1 d e2 w' (by omega) (ha.ext x) (hb.ext x) (by omega) (hra.ext x) (hrb.ext x) hs
  rw [hn, hm] at h
  simpa using h)
 clear hn hm hs ha hb hra hrb
 go_enter Tryz.func64, Tryz.ntmps64
 go_wp2_with fail
 refine (HS.out _ (by (with_reducible (repeat' (first | exact z_r _ | assumption | refine z_d ?_ | refine z_n ?_ _ | refine z_a ?_ _ | refine z_s ?_ ?_ _ | refine z_t ?_ (by assumption)))); all_goals (simp <;> omega))).mono ?_
 rintro e w1 ⟨rfl, hb1⟩
 go_wp2_with fail
 go_ret
 exact ⟨rfl, (by (with_reducible (repeat' (first | exact z_r _ | assumption | refine z_d ?_ | refine z_n ?_ _ | refine z_a ?_ _ | refine z_s ?_ ?_ _ | refine z_t ?_ (by assumption)))); all_goals (simp <;> omega))⟩

set_option maxRecDepth 100000 in
set_option maxHeartbeats 2000000 in
theorem is14_yes {w : World} {p : Spot} {q : RSpot} {R R2 : Nat → Prop} {W H s : Int} {l : List Int} (h : WorldAt w p R W H s l) (h2 : RefAt w q R2 W H s l) (hgs : (gatesA W H s l).length ≤ 50000) :
  Calls Tryz.prog 18 #[.pointer (some ⟨p.b, 0, none⟩), .pointer (some ⟨q.b, 0, none⟩)] w fun e w' => e = .returned (.bool true) ∧ Ext w w' := by
 have hgood : Good W H s l := by obtain ⟨G, T, h1, _⟩ := h; exact h1.good
 have hlen := hgood.len
 have bcn := hgood.cnt
 obtain ⟨N, hN⟩ : ∃ N : Nat, (cnt W H s).toNat = N := ⟨_, rfl⟩
 have HC := hide (show cnt W H s = (N : Int) by omega)
 have HNT := hide hN
 have hN2 : N ≤ 65536 := by omega
 have hq : RefS w q R2 W H s l N := by rw [← hN]; exact h2
 have HQ := hide hq
 have HTL := hide (fun (k : Nat) (hk : k < N) => tabA_len (l := l) hgood (id := (k : Int)) ⟨by omega, by omega⟩)
 have HP := hide (fun (w' : World) (x : Ext w w') => (by obtain ⟨G, T, h1, _⟩ := h.ext x; exact rdParts_any h1 : Calls Tryz.prog 30 #[.pointer (some ⟨p.b, 0, none⟩)] w' fun e w'' => e = .returned (.agg #[.int .i64 W, .int .i64 H, .int .i64 s]) ∧ Ext w' w''))
 have HFd := hide (fun (w' : World) (x : Ext w w') => (by obtain ⟨G, T, h1, _⟩ := h.ext x; exact rdField_any h1 : Calls Tryz.prog 25 #[.pointer (some ⟨p.b, 0, none⟩)] w' (RetField w' W H l)))
 have HGa := hide (fun (w' : World) (x : Ext w w') => (by obtain ⟨G, T, h1, h3⟩ := h.ext x; exact rdGates_any h1 h3.gates : Calls Tryz.prog 35 #[.pointer (some ⟨p.b, 0, none⟩)] w' (RetGates1 w' (gatesA W H s l))))
 have HTB := hide (fun (w' : World) (x : Ext w w') (k : Nat) (hk : k < N) => rdTable_yes (h.ext x) k (by omega))
 have HTN := hide (fun (w' : World) (x : Ext w w') => rdTable_no (h.ext x) (N : Int) (.inr (by omega)))
 have HTM := hide (fun (w' : World) (x : Ext w w') => rdTable_no (h.ext x) (-1) (.inl (by omega)))
 have B := hide hq.blk
 unfold refCells at B
 have HRW := hide hq.row
 obtain ⟨ga, gc, hgv⟩ := hq.gates.slice
 have HGV := hide hq.gates
 rw [hgv] at B HGV
 have HTS := hide hq.tabs
 obtain ⟨qa, hqa⟩ : ∃ z, q.a = z := ⟨_, rfl⟩
 obtain ⟨qc, hqc⟩ : ∃ z, q.c = z := ⟨_, rfl⟩
 obtain ⟨qb, hqb⟩ : ∃ z, q.b = z := ⟨_, rfl⟩
 obtain ⟨qt, hqt⟩ : ∃ z, q.tg = z := ⟨_, rfl⟩
 obtain ⟨qk, hqk⟩ : ∃ z, q.tc = z := ⟨_, rfl⟩
 obtain ⟨bv, hbv⟩ : ∃ z, q.bv = z := ⟨_, rfl⟩
 rw [hqa, hqc, hqb, hqt, hqk, hbv] at B
 rw [hqa] at HRW
 rw [hqt, hqk] at HTS
 rw [hqb]
 obtain ⟨n, hn⟩ : ∃ z, l.length = z := ⟨_, rfl⟩
 have HL := hide hn
 rw [hn] at B hlen
 have heq := fun w => eq_size W H W H w
 simp only [beq_self_eq_true, Bool.and_self] at heq
 obtain ⟨gl, hgl⟩ : ∃ z, (gatesA W H s l).length = z := ⟨_, rfl⟩
 have LG := hide hgl
 rw [hgl] at B HGV hgs
 clear hgood bcn hN hq h h2 hgv hqa hqc hqb hqt hqk hbv hn hgl HQ
 go_enter Tryz.func18, Tryz.ntmps18
 go_wp2_with fail
 refine (HP.out _ (Ext.refl _)).mono ?_
 rintro e w1 ⟨rfl, x1⟩
 go_upto_region 2 with (fail)
 obtain ⟨w2, hw2⟩ : ∃ z, z = w1.alloc (.cells #[.int .i64 W, .int .i64 H, .int .i64 s] 63) := ⟨_, rfl⟩
 have hx2 : Ext w1 w2 := by rw [hw2]; exact (Ext.refl _).alloc _
 have P2 := hide (show Blk w2 w1.heap.size 63 #[.int .i64 W, .int .i64 H, .int .i64 s] by rw [hw2]; exact Blk.new_ rfl)
 have X2 := hide (x1.trans hx2)
 have B2 := hide (B.out.ext X2.out)
 rw [← hw2]
 clear hw2 hx2 x1
 have p0 := P2.out.at 0 rfl; have p1 := P2.out.at 1 rfl; have p2 := P2.out.at 2 rfl; have pz := P2.out.lt
 have b0 := B2.out.at 0 rfl; have b1 := B2.out.at 1 rfl; have b2 := B2.out.at 2 rfl; have b3 := B2.out.at 3 rfl; have b4 := B2.out.at 4 rfl; have b5 := B2.out.at 5 rfl; have b6 := B2.out.at 6 rfl; have bz := B2.out.lt
 refine seqH_start (S := (fun W => (∀ b o, b < w2.heap.size → W.cell? ⟨b, o, none⟩ = w2.cell? ⟨b, o, none⟩) ∧ Ext w2 W)) [(0, true), (2, true), (3, true), (4, true), (5, true), (1, false), (6, false), (7, true), (8, true), (9, true), (10, true), (11, true), (12, true), (13, true), (14, true), (15, true), (16, true), (17, true), (18, true), (19, true), (20, true), (21, true), (22, true), (23, true), (24, true), (25, true), (26, true), (27, true), (28, true), (30, true), (31, true), (32, true), (33, true), (29, false), (34, false), (35, true), (36, true)] (by kernel_rfl) (by kernel_rfl) (by kernel_rfl) (by decide) (fun _ _ d _ _ h => by cases d <;> exact h) (by first | with_reducible exact pr_start _ | exact pr_of (by (with_reducible (repeat' (first | exact z_r _ | assumption | refine z_d ?_ | refine z_n ?_ _ | refine z_a ?_ _ | refine z_s ?_ ?_ _ | refine z_t ?_ (by assumption)))); all_goals (simp <;> omega))) (fun hHeld => ?_)
 iterate 5 (apply SeqH.free; (· (simp only [z_0, z_1, z_2]; rfl)); (· first | exact Or.inr ⟨by rfl, rfl⟩ | (refine Or.inl ⟨by rfl, ?_⟩; intro w hSw; (try dsimp only at hSw); go_simp; try with_reducible rfl)); try simp only [Act.put, z_3, z_4, z_5])
 (apply SeqH.step; (· (simp only [z_0, z_1, z_2]; rfl)); intro K hK; go_simp; refine (HFd.out _ (X2.out.trans (by (with_reducible (repeat' (first | exact z_r _ | assumption | refine z_d ?_ | refine z_n ?_ _ | refine z_a ?_ _ | refine z_s ?_ ?_ _ | refine z_t ?_ (by assumption)))); all_goals (simp <;> omega)))).mono ?_; rintro e w3 ⟨fa, fc, rfl, x3, o3⟩; rw [HL.out] at o3 ⊢; have O3 := hide o3; clear o3; go_wp2_with fail; refine hK.out _ _ (pr_of (by (with_reducible (repeat' (first | exact z_r _ | assumption | refine z_d ?_ | refine z_n ?_ _ | refine z_a ?_ _ | refine z_s ?_ ?_ _ | refine z_t ?_ (by assumption)))); all_goals (simp <;> omega))) (fun hHeld => ?_); clear hK K; try simp only [Act.put, z_3, z_4, z_5])
 (apply SeqH.step; (· (simp only [z_0, z_1, z_2]; rfl)); intro K hK; go_simp; refine (field14_yes W H fa qa l n fc qc _ HL.out (by omega) (row16_ownG O3.out) (HRW.out.ext (X2.out.trans (by (with_reducible (repeat' (first | exact z_r _ | assumption | refine z_d ?_ | refine z_n ?_ _ | refine z_a ?_ _ | refine z_s ?_ ?_ _ | refine z_t ?_ (by assumption)))); all_goals (simp <;> omega))))).mono ?_; rintro e w4 ⟨rfl, x4⟩; go_wp2_with fail; refine hK.out _ _ (pr_of (by (with_reducible (repeat' (first | exact z_r _ | assumption | refine z_d ?_ | refine z_n ?_ _ | refine z_a ?_ _ | refine z_s ?_ ?_ _ | refine z_t ?_ (by assumption)))); all_goals (simp <;> omega))) (fun hHeld => ?_); clear hK K; try simp only [Act.put, z_3, z_4, z_5])
 iterate 9 (apply SeqH.free; (· (simp only [z_0, z_1, z_2]; rfl)); (· first | exact Or.inr ⟨by rfl, rfl⟩ | (refine Or.inl ⟨by rfl, ?_⟩; intro w hSw; (try dsimp only at hSw); go_simp; try with_reducible rfl)); try simp only [Act.put, z_3, z_4, z_5])
 (apply SeqH.free (v := .bool false); (· (simp only [z_0, z_1, z_2]; rfl)); (· refine Or.inl ⟨by rfl, ?_⟩; intro w hSw; (try dsimp only at hSw); go_simp); try simp only [Act.put, z_3, z_4, z_5])
 iterate 16 (apply SeqH.free; (· (simp only [z_0, z_1, z_2]; rfl)); (· first | exact Or.inr ⟨by rfl, rfl⟩ | (refine Or.inl ⟨by rfl, ?_⟩; intro w hSw; (try dsimp only at hSw); go_simp; try with_reducible rfl)); try simp only [Act.put, z_3, z_4, z_5])
 (apply SeqH.step; (· (simp only [z_0, z_1, z_2]; rfl)); intro K hK; go_simp; refine (HGa.out _ (X2.out.trans (by (with_reducible (repeat' (first | exact z_r _ | assumption | refine z_d ?_ | refine z_n ?_ _ | refine z_a ?_ _ | refine z_s ?_ ?_ _ | refine z_t ?_ (by assumption)))); all_goals (simp <;> omega)))).mono ?_; rintro e w5 ⟨v5, rfl, x5, o5⟩; have O5 := hide o5; clear o5; go_wp2_with fail; refine hK.out _ _ (pr_of (by (with_reducible (repeat' (first | exact z_r _ | assumption | refine z_d ?_ | refine z_n ?_ _ | refine z_a ?_ _ | refine z_s ?_ ?_ _ | refine z_t ?_ (by assumption)))); all_goals (simp <;> omega))) (fun hHeld => ?_); clear hK K; try simp only [Act.put, z_3, z_4, z_5])
 (apply SeqH.step; (· (simp only [z_0, z_1, z_2]; rfl)); intro K hK; go_simp; refine (gates14_yes v5 _ (gatesA W H s l) _ (by rw [LG.out]; omega) O5.out.reads (HGV.out.reads.ext (X2.out.trans (by (with_reducible (repeat' (first | exact z_r _ | assumption | refine z_d ?_ | refine z_n ?_ _ | refine z_a ?_ _ | refine z_s ?_ ?_ _ | refine z_t ?_ (by assumption)))); all_goals (simp <;> omega))))).mono ?_; rintro e w6 ⟨rfl, x6⟩; go_wp2_with fail; refine hK.out _ _ (pr_of (by (with_reducible (repeat' (first | exact z_r _ | assumption | refine z_d ?_ | refine z_n ?_ _ | refine z_a ?_ _ | refine z_s ?_ ?_ _ | refine z_t ?_ (by assumption)))); all_goals (simp <;> omega))) (fun hHeld => ?_); clear hK K; try simp only [Act.put, z_3, z_4, z_5])
 iterate 2 (apply SeqH.free; (· (simp only [z_0, z_1, z_2]; rfl)); (· first | exact Or.inr ⟨by rfl, rfl⟩ | (refine Or.inl ⟨by rfl, ?_⟩; intro w hSw; (try dsimp only at hSw); go_simp; try with_reducible rfl)); try simp only [Act.put, z_3, z_4, z_5])
 refine SeqH.done ?_
 have XE := hide (X2.out.trans hHeld.2)
 clear hHeld p0 p1 p2 pz b0 b1 b2 b3 b4 b5 b6 bz B2 P2 X2
 go_wp2_with fail
 go_loopw [6] (fun iv wr => ∃ k : Nat, k ≤ N ∧ iv = .int .i64 (k : Int) ∧ Ext w wr) (fun iv _ => N - (intOf iv).toNat)
 case atStart => exact ⟨0, Nat.zero_le _, rfl, XE.out⟩
 case round =>
  obtain ⟨k, hk, rfl, hx⟩ := hrel
  have XR := hide hx
  have BR := hide (B.out.ext XR.out)
  clear hx
  have b6 := BR.out.at 6 rfl
  have bz := BR.out.lt
  by_cases hlt : k < N
  ·obtain ⟨ts, t1, t2, t3⟩ := HTS.out
   obtain ⟨y, hy⟩ : ∃ y, ts[k]? = some y := ⟨_, List.getElem?_eq_getElem (by rw [t2, tabsA_len]; exact hlt)⟩
   have T3 := hide (t3 k y _ hy (tabsA_at hlt))
   have CA := own_tab_at (t1.ext XR.out) hy
   have HTLk := hide (HTL.out k hlt)
   have HTBk := hide (fun (w' : World) (x : Ext w w') => HTB.out w' x k hlt)
   obtain ⟨t, htk⟩ : ∃ z, tabA W H s l (k : Int) = z := ⟨_, rfl⟩
   rw [htk] at T3 HTLk HTBk
   obtain ⟨⟨q1, q2, q3⟩, ⟨q4, q5, q6⟩⟩ := y
   obtain ⟨⟨oy, _⟩, ry⟩ := T3.out
   simp only [slV] at CA oy ry
   have ey := (Reads.rowC oy.reads).1
   have RCY := hide (Reads.rowC oy.reads).2
   obtain ⟨ra, rc, hrv, ru⟩ := rowsU_of ry.at0
   have RUY := hide ru
   injection hrv with er1 er2 er3
   subst er1 er2 er3
   have jk : (k : Int) < (N : Int) := by omega
   obtain ⟨u, hu⟩ : ∃ z, t.1.length = z := ⟨_, rfl⟩
   obtain ⟨v, hv⟩ : ∃ z, t.2.length = z := ⟨_, rfl⟩
   have HU := hide hu
   have HV := hide hv
   have ey2 : q2 = u := ey.trans hu
   subst ey2
   rw [hv] at CA
   have D0 := hide CA.1
   have D1 := hide CA.2
   have zt := (own_lt (t1.ext XR.out) (k := qt) rfl).2
   clear hu hv htk t1 t2 t3 hy CA oy ry ru T3 ey
   go_wp2_with fail
   refine (HTBk.out _ XR.out).mono ?_
   rintro e w8 ⟨v1, v2, rfl, x8, oc1, or1⟩
   obtain ⟨a1, c1, rfl⟩ := oc1.slice
   obtain ⟨r1, d1, rfl, ru1⟩ := rowsU_of or1
   rw [HU.out, HV.out]
   have RC1 := hide (Reads.rowC oc1.reads).2
   have RU1 := hide ru1
   have z8 := x8.size
   clear oc1 or1 ru1
   go_upto_region 8 with (fail)
   obtain ⟨wa, hwa⟩ : ∃ z, z = w8.alloc (.cells #[.slice a1 q2 c1, .slice r1 v d1] 74) := ⟨_, rfl⟩
   have xwa : Ext w8 wa := by rw [hwa]; exact (Ext.refl _).alloc _
   have TA := hide (show Blk wa w8.heap.size 74 #[.slice a1 q2 c1, .slice r1 v d1] by rw [hwa]; exact Blk.new_ rfl)
   have XA := hide (show Ext wr wa from x8.trans xwa)
   have BA := hide (BR.out.ext XA.out)
   have RC1a := hide (RC1.out.ext xwa)
   have RU1a := hide (RU1.out.ext xwa)
   have d0 := (XA.out.cell (p := ⟨qt, k * 2, none⟩) zt).trans D0.out
   have d1' := (XA.out.cell (p := ⟨qt, k * 2 + 1, none⟩) zt).trans D1.out
   rw [← hwa]
   have zwa : w8.heap.size < wa.heap.size := TA.out.lt
   have zta : qt < wa.heap.size := by omega
   clear hwa xwa x8 b6 bz RC1 RU1 D0 D1
   have y0 := TA.out.at 0 rfl; have y1 := TA.out.at 1 rfl; have yz := TA.out.lt
   have b6 := BA.out.at 6 rfl
   have bz := BA.out.lt
   refine seqH_start (S := (fun W => (∀ b o, b < wa.heap.size → W.cell? ⟨b, o, none⟩ = wa.cell? ⟨b, o, none⟩) ∧ Ext wa W)) [(0, true), (1, true), (2, true), (3, true), (4, true), (5, true), (6, true), (7, true), (8, true), (9, true), (10, true), (11, false), (12, true), (13, true)] (by kernel_rfl) (by kernel_rfl) (by kernel_rfl) (by decide) (fun _ _ d _ _ h => by cases d <;> exact h) (by first | with_reducible exact pr_start _ | exact pr_of (by (with_reducible (repeat' (first | exact z_r _ | assumption | refine z_d ?_ | refine z_n ?_ _ | refine z_a ?_ _ | refine z_s ?_ ?_ _ | refine z_t ?_ (by assumption)))); all_goals (simp <;> omega))) (fun hHeld => ?_)
   iterate 11 (apply SeqH.free; (· (simp only [z_0, z_1, z_2]; rfl)); (· first | exact Or.inr ⟨by rfl, rfl⟩ | (refine Or.inl ⟨by rfl, ?_⟩; intro w hSw; (try dsimp only at hSw); go_simp; try with_reducible rfl)); try simp only [Act.put, z_3, z_4, z_5])
   (apply SeqH.step; (· (simp only [z_0, z_1, z_2]; rfl)); intro K hK; go_simp; refine (table14_yes a1 q1 r1 q4 t q2 v c1 d1 q3 q6 _ HU.out HV.out (by have := HTLk.out.1; have := HU.out; omega) (by have := HTLk.out.2.1; have := HV.out; omega) (fun r hr => by have := HTLk.out.2.2 r hr; omega) (RC1a.out.ext (by (with_reducible (repeat' (first | exact z_r _ | assumption | refine z_d ?_ | refine z_n ?_ _ | refine z_a ?_ _ | refine z_s ?_ ?_ _ | refine z_t ?_ (by assumption)))); all_goals (simp <;> omega))) (RCY.out.ext (XR.out.trans (XA.out.trans (by (with_reducible (repeat' (first | exact z_r _ | assumption | refine z_d ?_ | refine z_n ?_ _ | refine z_a ?_ _ | refine z_s ?_ ?_ _ | refine z_t ?_ (by assumption)))); all_goals (simp <;> omega))))) (RU1a.out.ext (by (with_reducible (repeat' (first | exact z_r _ | assumption | refine z_d ?_ | refine z_n ?_ _ | refine z_a ?_ _ | refine z_s ?_ ?_ _ | refine z_t ?_ (by assumption)))); all_goals (simp <;> omega))) (RUY.out.ext (XR.out.trans (XA.out.trans (by (with_reducible (repeat' (first | exact z_r _ | assumption | refine z_d ?_ | refine z_n ?_ _ | refine z_a ?_ _ | refine z_s ?_ ?_ _ | refine z_t ?_ (by assumption)))); all_goals (simp <;> omega)))))).mono ?_; rintro e w9 ⟨rfl, x9⟩; go_wp2_with fail; refine hK.out _ _ (pr_of (by (with_reducible (repeat' (first | exact z_r _ | assumption | refine z_d ?_ | refine z_n ?_ _ | refine z_a ?_ _ | refine z_s ?_ ?_ _ | refine z_t ?_ (by assumption)))); all_goals (simp <;> omega))) (fun hHeld => ?_); clear hK K; try simp only [Act.put, z_3, z_4, z_5])
   iterate 2 (apply SeqH.free; (· (simp only [z_0, z_1, z_2]; rfl)); (· first | exact Or.inr ⟨by rfl, rfl⟩ | (refine Or.inl ⟨by rfl, ?_⟩; intro w hSw; (try dsimp only at hSw); go_simp; try with_reducible rfl)); try simp only [Act.put, z_3, z_4, z_5])
   refine SeqH.done ?_
   have XF := hide hHeld.2
   clear hHeld
   go_wp2_with fail
   go_roundw
   case rel => exact ⟨k + 1, by omega, by go_num, XR.out.trans (XA.out.trans XF.out)⟩
   case measure => simp [intOf]; omega
  ·obtain rfl : N = k := by omega
   go_wp2_with fail
   refine (HTN.out _ XR.out).mono ?_
   rintro e w8 ⟨rfl, x8⟩
   go_wp2_with fail
   refine (HTM.out _ ((XR.out.trans x8).trans (by (with_reducible (repeat' (first | exact z_r _ | assumption | refine z_d ?_ | refine z_n ?_ _ | refine z_a ?_ _ | refine z_s ?_ ?_ _ | refine z_t ?_ (by assumption)))); all_goals (simp <;> omega)))).mono ?_
   rintro e w9 ⟨rfl, x9⟩
   go_wp2_with fail
   go_ret
   exact ⟨rfl, (XR.out.trans x8).trans ((Ext.trans (by (with_reducible (repeat' (first | exact z_r _ | assumption | refine z_d ?_ | refine z_n ?_ _ | refine z_a ?_ _ | refine z_s ?_ ?_ _ | refine z_t ?_ (by assumption)))); all_goals (simp <;> omega)) x9).trans (by (with_reducible (repeat' (first | exact z_r _ | assumption | refine z_d ?_ | refine z_n ?_ _ | refine z_a ?_ _ | refine z_s ?_ ?_ _ | refine z_t ?_ (by assumption)))); all_goals (simp <;> omega)))⟩

theorem own_nil_cap {α : Type} {E : Enc α} {w : World} {base n c : Nat} {e : TypeId} {a : Option Addr} {l : List α} (h : Own E w base e (.slice a n c) l) (hn : a = none) : c = 0 := by
 rcases h.2 with ⟨hv, _⟩ | ⟨g, cap, cur, hv, _⟩
 ·injection hv
 ·injection hv with e1 _ _
  rw [hn] at e1
  cases e1

/-- The reference's world comes back: of new blocks, but for the field's row. -/
def MadeRef (w : World) (a : Option Addr) (c : Nat) (W H s : Int) (l : List Int) (e : Ending) (w' : World) : Prop :=
 ∃ q, e = .returned (.pointer (some ⟨q.b, 0, none⟩)) ∧ Ext w w' ∧ RefAt w' q (fun k => (w.heap.size ≤ k ∧ k < w'.heap.size) ∨ ∃ o, a = some ⟨k, o, none⟩) W H s l ∧ q.a = a ∧ q.c = c ∧ w.heap.size ≤ q.b

set_option maxRecDepth 100000 in
set_option maxHeartbeats 2000000 in
theorem r14New_any {w : World} {W H : Int} {a : Option Addr} {l : List Int} (c : Nat) {s : Int} (g : Good W H s l) (hr : Row16 w a l) (hs : (gatesA W H s l).length ≤ 50000) :
  Calls Tryz.prog 19 #[.agg #[.int .i64 W, .int .i64 H, .slice a l.length c], .int .i64 s] w (MadeRef w a c W H s l) := by
 obtain ⟨hm, hl2⟩ := checkE_ok.1 g.ok
 have bcn := g.cnt
 have hlen := g.len
 obtain ⟨N, hN⟩ : ∃ N : Nat, (cnt W H s).toNat = N := ⟨_, rfl⟩
 have HC := hide (show cnt W H s = (N : Int) by omega)
 have HNT := hide hN
 have hN2 : N ≤ 65536 := by omega
 have hNb : (boxesAll W H s).length = N := by have := boxesAll_len g.right; omega
 have HLB := hide hNb
 have HBX := hide (fun w' => rBoxes_any W H s w' g.right)
 have HOF := hide (fun (w' : World) (x : Ext w w') => r12Of_any W H a l c s N w' hm hl2 (hr.ext x) g.u16 g.right hNb)
 rw [refAll_eq g.right HC.out] at HOF
 rw [show ofG l W H s (cnt W H s).toNat = gatesA W H s l from rfl] at HOF
 have HG := hide g
 have HR := hide hr
 have HGS := hide hs
 have HAT := hide (fun (k : Nat) (hk : k < N) => boxesAll_at g.right k (show (k : Int) < cnt W H s by omega))
 have HCE : Hid (∀ (w' : World) (v : Value) (k : Nat), k < N → Reads pairE w' v (gatesA W H s l) → Calls Tryz.prog 68 #[v, .agg #[.int .i64 (boxX W s (k : Int)), .int .i64 (boxY W s (k : Int)), .int .i64 (boxW W s (k : Int)), .int .i64 (boxH W H s (k : Int))]] w' (RetCells w' (celA W H s l (k : Int)))) := hide (fun w' v k hk o => by
  have hk0 : (0 : Int) ≤ (k : Int) ∧ (k : Int) < cnt W H s := ⟨by omega, by omega⟩
  have hbd := box_bd g.right hk0.1 hk0.2
  have hsz := box_sz g.right hk0.1 hk0.2
  obtain ⟨r1, r2, r3, r4, r5, r6⟩ := rightB_true.1 g.right
  exact r12Cells_any (gatesA W H s l) v _ _ _ _ w' hs o (by omega) (by omega) (by omega) (by omega))
 have HTO : Hid (∀ (w' : World) (k : Nat) (ca : Option Addr) (cc : Nat), Ext w w' → k < N → RowC w' ca (celA W H s l (k : Int)) → (ca = none → cc = 0) → Calls Tryz.prog 67 #[.agg #[.int .i64 W, .int .i64 H, .slice a l.length c], .agg #[.int .i64 (boxX W s (k : Int)), .int .i64 (boxY W s (k : Int)), .int .i64 (boxW W s (k : Int)), .int .i64 (boxH W H s (k : Int))], .slice ca (celA W H s l (k : Int)).length cc] w' fun e w'' => ∃ v1 v2, e = .returned (.agg #[v1, v2]) ∧ Ext w' w'' ∧ Own cellE w'' w'.heap.size 69 v1 (tabA W H s l (k : Int)).1 ∧ RowsAt w'' w'.heap.size v2 (tabA W H s l (k : Int)).2) := hide (fun w' k ca cc x hk hrc hn => by
  have hk0 : (0 : Int) ≤ (k : Int) ∧ (k : Int) < cnt W H s := ⟨by omega, by omega⟩
  unfold tabA
  rw [tabL_eq (g.box hk0)]
  exact r13Of_any (w := w') (g.box hk0) c cc (fun q hq => by have h := celA_in g hk0 hq; rwa [inId_has g.right hk0 q] at h) (by have := celA_len (l := l) g hk0; omega) (hr.ext x) g.u16 hrc hn)
 have HTL := hide (fun (k : Nat) (hk : k < N) => tabA_len (l := l) g (id := (k : Int)) ⟨by omega, by omega⟩)
 have HTC := hide (fun (k : Nat) => (show (tabA W H s l (k : Int)).1 = celA W H s l (k : Int) from rfl))
 obtain ⟨n, hn⟩ : ∃ z, l.length = z := ⟨_, rfl⟩
 have HL := hide hn
 rw [hn] at HOF HTO ⊢
 clear g hr hs hm hl2 bcn hlen hN hNb hn
 go_enter Tryz.func19, Tryz.ntmps19
 go_wp2_with fail
 obtain ⟨w1, hw1⟩ : ∃ z, z = w.alloc (.cells #[.int .i64 W, .int .i64 H, .slice a n c] 26) := ⟨_, rfl⟩
 have X1 := hide (show Ext w w1 by rw [hw1]; exact (Ext.refl _).alloc _)
 have F1 := hide (show Blk w1 w.heap.size 26 #[.int .i64 W, .int .i64 H, .slice a n c] by rw [hw1]; exact Blk.new_ rfl)
 rw [← hw1]
 clear hw1
 have x0 := F1.out.at 0 rfl; have x1 := F1.out.at 1 rfl; have x2 := F1.out.at 2 rfl; have xz := F1.out.lt
 refine seqH_start (S := (fun W => (∀ b o, b < w1.heap.size → W.cell? ⟨b, o, none⟩ = w1.cell? ⟨b, o, none⟩) ∧ Ext w1 W)) [(0, true), (1, true), (2, true), (3, true), (4, true), (6, true), (7, true), (5, false), (8, false), (9, true), (10, false), (11, true)] (by kernel_rfl) (by kernel_rfl) (by kernel_rfl) (by decide) (fun _ _ d _ _ h => by cases d <;> exact h) (by first | with_reducible exact pr_start _ | exact pr_of (by (with_reducible (repeat' (first | exact z_r _ | assumption | refine z_d ?_ | refine z_n ?_ _ | refine z_a ?_ _ | refine z_s ?_ ?_ _ | refine z_t ?_ (by assumption)))); all_goals (simp <;> omega))) (fun hHeld => ?_)
 iterate 7 (apply SeqH.free; (· (simp only [z_0, z_1, z_2]; rfl)); (· first | exact Or.inr ⟨by rfl, rfl⟩ | (refine Or.inl ⟨by rfl, ?_⟩; intro w hSw; (try dsimp only at hSw); go_simp; try with_reducible rfl)); try simp only [Act.put, z_3, z_4, z_5])
 (apply SeqH.step; (· (simp only [z_0, z_1, z_2]; rfl)); intro K hK; go_simp; refine (HBX.out _).mono ?_; rintro e w3 ⟨bv, rfl, x3, o3⟩; obtain ⟨ba, bc, rfl⟩ := o3.slice; rw [show (boxesR W H s (acr H s).toNat).length = N from HLB.out] at o3 ⊢; have O3 := hide o3; clear o3; go_wp2_with fail; refine hK.out _ _ (pr_of (by (with_reducible (repeat' (first | exact z_r _ | assumption | refine z_d ?_ | refine z_n ?_ _ | refine z_a ?_ _ | refine z_s ?_ ?_ _ | refine z_t ?_ (by assumption)))); all_goals (simp <;> omega))) (fun hHeld => ?_); clear hK K; try simp only [Act.put, z_3, z_4, z_5])
 (apply SeqH.step; (· (simp only [z_0, z_1, z_2]; rfl)); intro K hK; go_simp; refine (HOF.out _ (X1.out.trans (by (with_reducible (repeat' (first | exact z_r _ | assumption | refine z_d ?_ | refine z_n ?_ _ | refine z_a ?_ _ | refine z_s ?_ ?_ _ | refine z_t ?_ (by assumption)))); all_goals (simp <;> omega)))).mono ?_; rintro e w4 ⟨gv, rfl, x4, o4⟩; obtain ⟨ga, gc, rfl⟩ := o4.slice; have O4 := hide o4; have P4 := hide (O3.out.ext x4); clear o4; go_wp2_with fail; refine hK.out _ _ (pr_of (by (with_reducible (repeat' (first | exact z_r _ | assumption | refine z_d ?_ | refine z_n ?_ _ | refine z_a ?_ _ | refine z_s ?_ ?_ _ | refine z_t ?_ (by assumption)))); all_goals (simp <;> omega))) (fun hHeld => ?_); clear hK K; try simp only [Act.put, z_3, z_4, z_5])
 iterate 1 (apply SeqH.free; (· (simp only [z_0, z_1, z_2]; rfl)); (· first | exact Or.inr ⟨by rfl, rfl⟩ | (refine Or.inl ⟨by rfl, ?_⟩; intro w hSw; (try dsimp only at hSw); go_simp; try with_reducible rfl)); try simp only [Act.put, z_3, z_4, z_5])
 (apply SeqH.step; (· (simp only [z_0, z_1, z_2]; rfl)); intro K hK; go_simp; refine hK.out _ _ (pr_of (by (with_reducible (repeat' (first | exact z_r _ | assumption | refine z_d ?_ | refine z_n ?_ _ | refine z_a ?_ _ | refine z_s ?_ ?_ _ | refine z_t ?_ (by assumption)))); all_goals (simp <;> omega))) (fun hHeld => ?_); clear hK K; try simp only [Act.put, z_3, z_4, z_5])
 iterate 1 (apply SeqH.free; (· (simp only [z_0, z_1, z_2]; rfl)); (· first | exact Or.inr ⟨by rfl, rfl⟩ | (refine Or.inl ⟨by rfl, ?_⟩; intro w hSw; (try dsimp only at hSw); go_simp; try with_reducible rfl)); try simp only [Act.put, z_3, z_4, z_5])
 refine SeqH.done ?_
 have XW4 : Ext w1 w4 := (show Ext w1 w3 from (by (with_reducible (repeat' (first | exact z_r _ | assumption | refine z_d ?_ | refine z_n ?_ _ | refine z_a ?_ _ | refine z_s ?_ ?_ _ | refine z_t ?_ (by assumption)))); all_goals (simp <;> omega))).trans x4
 obtain ⟨wa, hwa⟩ : ∃ z, z = w4.alloc (.cells #[.int .i64 W, .int .i64 H, .slice a n c, .int .i64 s, .slice ba N bc, .slice ga (gatesA W H s l).length gc, .slice none 0 0] 56) := ⟨_, rfl⟩
 have hxa : Ext w4 wa := by rw [hwa]; exact (Ext.refl _).alloc _
 have BB := hide (show Blk wa w4.heap.size 56 #[.int .i64 W, .int .i64 H, .slice a n c, .int .i64 s, .slice ba N bc, .slice ga (gatesA W H s l).length gc, .slice none 0 0] by rw [hwa]; exact Blk.new_ rfl)
 have FA := hide (F1.out.ext (XW4.trans hxa))
 have z1 := X1.out.size
 have z3 : w1.heap.size ≤ w3.heap.size := (show Ext w1 w3 from (by (with_reducible (repeat' (first | exact z_r _ | assumption | refine z_d ?_ | refine z_n ?_ _ | refine z_a ?_ _ | refine z_s ?_ ?_ _ | refine z_t ?_ (by assumption)))); all_goals (simp <;> omega))).size
 have z4 := XW4.size
 have PA := hide ((P4.out.ext hxa).lower (base' := w.heap.size) (by (try simp only [World.size_drew]); omega))
 have GA := hide ((O4.out.ext hxa).lower (base' := w.heap.size) (by (try simp only [World.size_drew]); omega))
 have XA := hide ((X1.out.trans XW4).trans hxa)
 have za := hxa.size
 have zb : w4.heap.size < wa.heap.size := BB.out.lt
 rw [← hwa]
 obtain ⟨bb, hbb⟩ : ∃ z, w4.heap.size = z := ⟨_, rfl⟩
 rw [hbb] at BB zb ⊢
 have hbw : w.heap.size < bb := by have := F1.out.lt; omega
 obtain ⟨gl, hgl⟩ : ∃ z, (gatesA W H s l).length = z := ⟨_, rfl⟩
 have LG := hide hgl
 rw [hgl] at BB GA ⊢
 clear hHeld hwa hxa XW4 O4 P4 O3 x3 x4 hbb hgl z4 z3 za x0 x1 x2 xz F1 X1
 go_wp2_with fail
 go_loopw [6] (fun iv wr => ∃ k : Nat, k ≤ N ∧ iv = .int .i64 (k : Int) ∧ Touch (fun j => j = bb) wa wr ∧ ∃ (tv : Value) (ts : List (Sl × Sl)) (R2 : Nat → Prop), Blk wr bb 56 #[.int .i64 W, .int .i64 H, .slice a n c, .int .i64 s, .slice ba N bc, .slice ga gl gc, tv] ∧ Own tabE wr wa.heap.size 139 tv ts ∧ TabsR R2 wr ts (tabsA W H s l k) ∧ (∀ q, R2 q → wa.heap.size ≤ q ∧ q < wr.heap.size) ∧ ∀ q, tv.ownBlock = some q → ¬ R2 q) (fun iv _ => N - (intOf iv).toNat)
 case atStart => exact ⟨0, Nat.zero_le _, rfl, Touch.refl _ _, _, [], fun _ => False, BB.out, Own.nil _ _ _ _, ⟨rfl, fun i x y h => by simp at h⟩, (fun q h => h.elim), fun q h => by cases h⟩
 case round =>
  obtain ⟨k, hk, rfl, ht, tv, ts, R2, hb, hot, htr, hr2, hor⟩ := hrel
  have TT := hide ht
  have BR := hide hb
  have OT := hide hot
  have TR := hide htr
  have R2B := hide hr2
  have R2O := hide hor
  have XR := hide (XA.out.of_below (Touch.to_below (B := w.heap.size) ht XA.out.size (fun k e => by omega)) (Nat.le_refl _))
  have zr := ht.size
  have FR := hide (FA.out.touch ht (by omega))
  have PR := hide (PA.out.touch ht (fun q hq e => by have h := BB.out.ne_own PA.out (by decide); rw [← e] at h; exact h hq))
  have GR := hide (GA.out.touch ht (fun q hq e => by have h := BB.out.ne_own GA.out (by decide); rw [← e] at h; exact h hq))
  clear ht hb hot htr hr2 hor
  have b4 := BR.out.at 4 rfl
  have b5 := BR.out.at 5 rfl
  have b6 := BR.out.at 6 rfl
  have bz := BR.out.lt
  by_cases hlt : k < N
  ·obtain ⟨pb, rfl, hpb, p0, p1, p2, p3⟩ := own_box_at PR.out (HAT.out k hlt)
   have jk : (k : Int) < (N : Int) := by omega
   have HTLk := hide (HTL.out k hlt)
   have HTS := hide (tabsA_succ W H s l k)
   have HTOk := hide (fun (w' : World) (ca : Option Addr) (cc : Nat) (x : Ext w w') (h1 : RowC w' ca (celA W H s l (k : Int))) (h2 : ca = none → cc = 0) => HTO.out w' k ca cc x hlt h1 h2)
   have HCEk := hide (fun (w' : World) (v : Value) (o : Reads pairE w' v (gatesA W H s l)) => HCE.out w' v k hlt o)
   rw [show (boxP W H s (k : Int)).1.1 = boxX W s (k : Int) from rfl] at p0
   rw [show (boxP W H s (k : Int)).1.2 = boxY W s (k : Int) from rfl] at p1
   rw [show (boxP W H s (k : Int)).2.1 = boxW W s (k : Int) from rfl] at p2
   rw [show (boxP W H s (k : Int)).2.2 = boxH W H s (k : Int) from rfl] at p3
   have HTCk := hide (HTC.out k)
   generalize boxX W s (k : Int) = qx at *
   generalize boxY W s (k : Int) = qy at *
   generalize boxW W s (k : Int) = qw at *
   generalize boxH W H s (k : Int) = qh at *
   obtain ⟨t, htk⟩ : ∃ z, tabA W H s l (k : Int) = z := ⟨_, rfl⟩
   obtain ⟨cl, hcl⟩ : ∃ z, celA W H s l (k : Int) = z := ⟨_, rfl⟩
   rw [htk] at HTS HTOk HTLk HTCk
   rw [hcl] at HTOk HCEk HTCk
   obtain ⟨u, hu⟩ : ∃ z, cl.length = z := ⟨_, rfl⟩
   obtain ⟨v, hv⟩ : ∃ z, t.2.length = z := ⟨_, rfl⟩
   have HU := hide hu
   have HV := hide hv
   have HTL2 := hide (show ts.length = k by rw [TR.out.1, tabsA_len])
   rw [hu] at HTOk
   clear htk hcl hu hv
   go_wp2_with fail
   have f0 := FR.out.at 0 rfl; have f1 := FR.out.at 1 rfl; have f2 := FR.out.at 2 rfl; have fz := FR.out.lt
   have S0 := hide (show CellsAt [(⟨bb, 6, none⟩, tv), (⟨bb, 4, none⟩, .slice (some ⟨pb, 0, none⟩) N bc), (⟨bb, 5, none⟩, .slice ga gl gc), (⟨w.heap.size, 0, none⟩, .int .i64 W), (⟨w.heap.size, 1, none⟩, .int .i64 H), (⟨w.heap.size, 2, none⟩, .slice a n c), (⟨pb, k * 4, none⟩, .int .i64 qx), (⟨pb, k * 4 + 1, none⟩, .int .i64 qy), (⟨pb, k * 4 + 2, none⟩, .int .i64 qw), (⟨pb, k * 4 + 3, none⟩, .int .i64 qh)] wr from ⟨b6, b4, b5, f0, f1, f2, p0, p1, p2, p3, trivial⟩)
   have zbb : bb < wr.heap.size := BR.out.lt
   have hpo := (own_lt PA.out (k := pb) rfl).2
   refine seqR_start (S := (CellsAt [(⟨bb, 6, none⟩, tv), (⟨bb, 4, none⟩, .slice (some ⟨pb, 0, none⟩) N bc), (⟨bb, 5, none⟩, .slice ga gl gc), (⟨w.heap.size, 0, none⟩, .int .i64 W), (⟨w.heap.size, 1, none⟩, .int .i64 H), (⟨w.heap.size, 2, none⟩, .slice a n c), (⟨pb, k * 4, none⟩, .int .i64 qx), (⟨pb, k * 4 + 1, none⟩, .int .i64 qy), (⟨pb, k * 4 + 2, none⟩, .int .i64 qw), (⟨pb, k * 4 + 3, none⟩, .int .i64 qh)])) 30 [(0, true), (1, true), (2, true), (3, true), (4, true), (5, true), (6, true), (7, true), (8, true), (9, true), (10, true), (11, true), (12, true), (13, true), (14, true), (15, true), (16, true), (17, true), (18, true), (19, true), (20, true), (21, true), (22, true), (23, true), (24, false), (25, false), (26, false), (27, false), (28, true), (29, true), (30, false)] (by kernel_rfl) (by kernel_rfl) (by kernel_rfl) (by decide) (fun _ _ d _ _ h => by cases d <;> exact h) (CellsAt.ext ((Ext.refl _).drew) S0.out) (fun hHeld => ?_)
   iterate 24 (apply SeqR.free; (· (simp only [z_0, z_1, z_2]; rfl)); (· first | exact Or.inr ⟨by rfl, rfl⟩ | (refine Or.inl ⟨by rfl, ?_⟩; intro w hSw; (try dsimp only at hSw); simp only [CellsAt] at hSw; go_simp; try with_reducible rfl)); try simp only [Act.put, z_3, z_4, z_5])
   (apply SeqR.step; (· (simp only [z_0, z_1, z_2]; rfl)); intro K hK; go_simp; refine (HCEk.out _ _ (GR.out.reads.ext (by (with_reducible (repeat' (first | exact z_r _ | assumption | refine z_d ?_ | refine z_n ?_ _ | refine z_a ?_ _ | refine z_s ?_ ?_ _ | refine z_t ?_ (by assumption)))); all_goals (simp <;> omega)))).mono ?_; rintro e w5 ⟨cv, rfl, x5, o5⟩; obtain ⟨ca, cc, hcv⟩ := o5.slice; have hxw : Ext wr w5 := (by (with_reducible (repeat' (first | exact z_r _ | assumption | refine z_d ?_ | refine z_n ?_ _ | refine z_a ?_ _ | refine z_s ?_ ?_ _ | refine z_t ?_ (by assumption)))); all_goals (simp <;> omega)); rw [hcv] at o5 ⊢; rw [HU.out] at o5 ⊢; have O5 := hide o5; have X5 := hide hxw; have S5 := hide (CellsAt.ext hxw S0.out); clear o5 x5 hxw hcv; go_wp2_with fail; refine hK.out _ _ (fun _ => (S5.out)) (fun hHeld => ?_); replace hHeld := hHeld (by decide); clear hK K; try simp only [Act.put, z_3, z_4, z_5])
   (apply SeqR.step; (· (simp only [z_0, z_1, z_2]; rfl)); intro K hK; go_simp; refine (HTOk.out _ ca cc (XR.out.trans (X5.out.trans (by (with_reducible (repeat' (first | exact z_r _ | assumption | refine z_d ?_ | refine z_n ?_ _ | refine z_a ?_ _ | refine z_s ?_ ?_ _ | refine z_t ?_ (by assumption)))); all_goals (simp <;> omega)))) ((Reads.rowC O5.out.reads).2.ext (by (with_reducible (repeat' (first | exact z_r _ | assumption | refine z_d ?_ | refine z_n ?_ _ | refine z_a ?_ _ | refine z_s ?_ ?_ _ | refine z_t ?_ (by assumption)))); all_goals (simp <;> omega))) (own_nil_cap O5.out)).mono ?_; rintro e w6 ⟨v1, v2, rfl, x6, o6, r6⟩; rw [HTCk.out] at o6; obtain ⟨a81, c81, rfl⟩ := o6.slice; obtain ⟨a82, c82, rfl, _⟩ := rowsU_of r6; rw [HU.out] at o6 ⊢; rw [HV.out] at r6 ⊢; have hx6 : Ext wr w6 := X5.out.trans (by (with_reducible (repeat' (first | exact z_r _ | assumption | refine z_d ?_ | refine z_n ?_ _ | refine z_a ?_ _ | refine z_s ?_ ?_ _ | refine z_t ?_ (by assumption)))); all_goals (simp <;> omega)); have X6 := hide hx6; have S6 := hide (CellsAt.ext hx6 S0.out); have O6 := hide (OT.out.ext hx6); have B6 := hide (BR.out.ext hx6); have T6 := hide ((TR.out.touch (Touch.of_ext (S := fun _ => False) hx6) (fun _ _ x => x)).mono (R' := fun q => R2 q ∨ (wr.heap.size ≤ q ∧ q < w6.heap.size)) (fun q hq => .inl hq)); have z5 := X5.out.size; have N6 := hide (show TabR (fun q => R2 q ∨ (wr.heap.size ≤ q ∧ q < w6.heap.size)) w6 ((a81, u, c81), (a82, v, c82)) t from ⟨⟨by rw [HTCk.out]; exact o6.lower (Nat.zero_le _), fun q hq => .inr (by have h := own_lt o6 hq; (try simp at h); omega)⟩, RowsR.of_at r6 (fun q h1 h2 => .inr ⟨by (try simp at h1); omega, h2⟩)⟩); have z6 := hx6.size; clear o6 r6 x6 hx6; go_wp2_with fail; refine hK.out _ _ (fun _ => (S6.out)) (fun hHeld => ?_); replace hHeld := hHeld (by decide); clear hK K; try simp only [Act.put, z_3, z_4, z_5])
   (apply SeqR.step; (· (simp only [z_0, z_1, z_2]; rfl)); intro K hK; go_simp; refine hK.out _ _ (fun _ => (CellsAt.ext (by (with_reducible (repeat' (first | exact z_r _ | assumption | refine z_d ?_ | refine z_n ?_ _ | refine z_a ?_ _ | refine z_s ?_ ?_ _ | refine z_t ?_ (by assumption)))); all_goals (simp <;> omega)) S6.out)) (fun hHeld => ?_); replace hHeld := hHeld (by decide); clear hK K; try simp only [Act.put, z_3, z_4, z_5])
   (apply SeqR.step; (· (simp only [z_0, z_1, z_2]; rfl)); intro K hK; refine step_app_at tabE T_tabs13 (by rfl) _ _ (by rfl) wa.heap.size w6 tv ts (by rfl) O6.out ((a81, u, c81), (a82, v, c82)) _ _ (by rfl) _ (by rfl) (by rfl) (by rw [HTL2.out]; omega) (by rw [HTL2.out]; omega) (by omega) ?_; intro g9 c9 w9 o9 t9 l9; have O9 := hide o9; have L9 := hide l9; have hRt : ∀ q, (R2 q ∨ (wr.heap.size ≤ q ∧ q < w6.heap.size)) → ¬ tv.ownBlock = some q := (fun q hq e => hq.elim (fun h => R2O.out q e h) (fun h => (by have := (own_lt OT.out e).2; omega))); have TS9 := hide ((T6.out.snoc N6.out).touch t9 hRt); have B9 := hide (B6.out.touch t9 (fun h => Blk.ne_own B6.out O6.out (by decide) h)); have S9 := hide (CellsAt.touch t9 (fun p hp h => (by have hl := (own_lt OT.out h); simp only [List.mem_cons, List.not_mem_nil, or_false] at hp; rcases hp with rfl | rfl | rfl | rfl | rfl | rfl | rfl | rfl | rfl | rfl <;> simp only at hl <;> omega)) S6.out); have T9 := hide ((TT.out.trans (Touch.of_ext X6.out)).after t9 (fun k hk h => (by have hl := (own_lt O6.out h).1; omega))); have z9 := t9.size; have h6 := B9.out.at 6 rfl; have ff6 := B9.out.frozen 6; clear o9 t9 l9; refine hK.out _ _ (fun _ => (S9.out)) (fun hHeld => ?_); replace hHeld := hHeld (by decide); clear hK K; try simp only [Act.put, z_3, z_4, z_5])
   iterate 2 (apply SeqR.free; (· (simp only [z_0, z_1, z_2]; rfl)); (· first | exact Or.inr ⟨by rfl, rfl⟩ | (refine Or.inl ⟨by rfl, ?_⟩; intro w hSw; (try dsimp only at hSw); simp only [CellsAt] at hSw; go_simp; try with_reducible rfl)); try simp only [Act.put, z_3, z_4, z_5])
   (apply SeqR.step; (· (simp only [z_0, z_1, z_2]; rfl)); intro K hK; go_simp; refine hK.out _ _ (fun h => absurd rfl h) (fun hHeld => ?_); clear hK K; try simp only [Act.put, z_3, z_4, z_5])
   refine SeqR.done ?_
   go_wp2_with fail
   have TB : Touch (fun j => j = bb) w9 (w9.setCell ⟨bb, 6, none⟩ (.slice (some ⟨g9, 0, none⟩) (ts.length + 1) c9)) := touch1 w9 bb 6 _
   have TBH := hide TB
   have zbs := TB.size
   have hgb : g9 ≠ bb := fun e => Blk.ne_own B9.out O9.out (by decide) (by rw [e]; rfl)
   have hgw : wa.heap.size ≤ g9 ∧ g9 < w9.heap.size := own_lt O9.out rfl
   clear TB
   go_roundw
   case rel =>
    refine ⟨k + 1, by omega, by go_num, T9.out.trans TBH.out, _, ts ++ [((a81, u, c81), (a82, v, c82))], fun q => R2 q ∨ (wr.heap.size ≤ q ∧ q < w6.heap.size), B9.out.set_ 6 _, Own.touch O9.out TBH.out (fun q hq e => by have := own_blk hq; omega), ?_, fun q hq => ?_, fun q hq hR => ?_⟩
    ·rw [HTS.out]
     exact TS9.out.touch TBH.out (fun q hq e => hq.elim (fun h => by have := (R2B.out q h).1; omega) (fun h => by omega))
    ·rcases hq with h | h
     ·have := R2B.out q h; omega
     ·omega
    ·have e := own_blk hq
     subst e
     rcases L9.out with h | h
     ·rcases hR with h2 | h2
      ·exact R2O.out _ h h2
      ·have := (own_lt OT.out h).2; omega
     ·rcases hR with h2 | h2
      ·have := (R2B.out _ h2).2; omega
      ·omega
   case measure => simp [intOf]; omega
  ·obtain rfl : N = k := by omega
   have hN1 : 1 ≤ N := by have := HG.out.cnt; have := HC.out; omega
   have htl : ts.length = N := by rw [TR.out.1, tabsA_len]
   obtain ⟨g, c9, hg⟩ : ∃ g c, tv = .slice (some ⟨g, 0, none⟩) N c := by
    rcases OT.out.2 with ⟨_, h0⟩ | ⟨g, cap, cur, hv, _⟩
    ·omega
    ·exact ⟨g, cap, by rw [hv, htl]⟩
   subst hg
   have hgw := own_lt OT.out (k := g) rfl
   have hza := XA.out.size
   have hzr := XR.out.size
   have HOT := hide hgw
   clear htl hgw
   go_wp2_with fail
   go_ret
   refine ⟨⟨bb, a, c, .slice ba N bc, .slice ga gl gc, g, c9⟩, rfl, XR.out, ?_, rfl, rfl, by show w.heap.size ≤ bb; omega⟩
   show RefS wr _ _ W H s l (cnt W H s).toNat
   rw [HNT.out]
   exact {
    good := HG.out
    num := HC.out.symm
    blk := by unfold refCells; rw [HL.out]; exact BR.out
    row := HR.out.ext XR.out
    boxes := PR.out.lower (Nat.zero_le _)
    gates := GR.out.lower (Nat.zero_le _)
    tabs := ⟨ts, OT.out.lower (Nat.zero_le _), TR.out.mono fun q hq => .inl (by have := R2B.out q hq; omega)⟩
    inB := .inl ⟨by show w.heap.size ≤ bb; omega, by show bb < wr.heap.size; omega⟩
    inA := fun g o e => .inr ⟨o, e⟩
    inBx := fun q hq => .inl (by have := own_lt PR.out hq; omega)
    inG := fun q hq => .inl (by have := own_lt GR.out hq; omega)
    inT := .inl (by have := HOT.out; show w.heap.size ≤ g ∧ g < wr.heap.size; omega) }
end Go.Proofs.YtkioohhjjdlhiaaGreat
