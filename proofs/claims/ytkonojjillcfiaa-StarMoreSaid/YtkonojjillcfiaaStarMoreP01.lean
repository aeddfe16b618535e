/- The law StarMore, as it is said. -/
import Derived.Test.YtkonojjillcfiaaStarBudgetP04
import Derived.Test.YtkonojjillcfiaaStarFindsP01
import Derived.Test.YtkonojjillcfiaaStarBudgetP01
import Derived.Test.YtkonojjillcfiaaStarBudgetP13
import Derived.Test.YtkonojjillcfiaaStarBudgetP08
import Derived.Deep.Cut
import Derived.Test.YtkonojjillcfiaaStarBudgetP14
set_option linter.all false
set_option linter.unusedVariables false
set_option linter.unusedSimpArgs false
/- append of a whole row in a region that draws; rows of u16 that are one's own. -/
namespace Go.Proofs.Ytkonojjillcfiaa
open Go.RowKit

/-- append of a row, as a step of a region that draws. -/
theorem step_app_all {α : Type} (E : Enc α) {P : Program} {t e : TypeId} {z : Value} {bytes : Nat} (T : ElemT P t e z E.size bytes) {ops : Array Oper} {o : Oper} {a : Act} {K : Act → World → Prop} {Q : Exit → Act → World → Prop} {F : Prop}
    (hgd : o.guard = none) (s x : Operand) (ho : o.op = .call { callee := .builtin .append, args := #[s, x], argTypes := #[t, t] })
    (base : Nat) {w : World} (v : Value) (l1 l2 : List α) (hs : a.eval s = v) (hown : Own E w base e v l1)
    (b off c : Nat) (hx : a.eval x = .slice (some ⟨b, off, none⟩) l2.length c) (hc : Reads E w (.slice (some ⟨b, off, none⟩) l2.length c) l2)
    (hlen : (l1.length + l2.length) * bytes ≤ 140737488355328) (hl : l1.length + l2.length ≤ 1000000000) (h1 : 0 < l1.length + l2.length) (hbase : base ≤ w.heap.size)
    (h : ∀ g c' w', Own E w' base e (.slice (some ⟨g, 0, none⟩) (l1 ++ l2).length c') (l1 ++ l2) → Touch (fun k => v.ownBlock = some k) w w' → K (a.put o.dst (.slice (some ⟨g, 0, none⟩) (l1 ++ l2).length c')) w') :
    if Region.wanted o (yielded ops a.tmps) = true then Oper.wp P o a w K Q else F := by
  have hw : Region.wanted o (yielded ops a.tmps) = true := by simp [Region.wanted, hgd]
  rw [if_pos hw]
  obtain ⟨i0, hi, hz0, hz1, hz2⟩ := info_parts T.info
  have hcells : ∀ (j : Nat) (u : Value), (l2.flatMap E.cells)[j]? = some u → w.cell? ((⟨b, off, none⟩ : Addr).add j) = some u := by
    intro j u hu
    have hadd : (⟨b, off, none⟩ : Addr).add j = ⟨b, off + j, none⟩ := by unfold Addr.add; split <;> simp_all
    rw [hadd]
    have hpos : 0 < E.size := T.pos
    have hjl : j < l2.length * E.size := by
      have := (List.getElem?_eq_some_iff.1 hu).1
      rw [E.flat_len] at this
      exact this
    have hk : j / E.size < l2.length := Nat.div_lt_of_lt_mul (by rw [Nat.mul_comm]; exact hjl)
    have hm : j % E.size < E.size := Nat.mod_lt _ hpos
    have hj : j / E.size * E.size + j % E.size = j := by rw [Nat.mul_comm]; exact Nat.div_add_mod j E.size
    have hy : l2[j / E.size]? = some l2[j / E.size] := List.getElem?_eq_getElem hk
    obtain ⟨u', hu'⟩ : ∃ u', (E.cells (l2[j / E.size]'hk))[j % E.size]? = some u' := ⟨_, List.getElem?_eq_getElem (Nat.lt_of_lt_of_eq hm (E.len _).symm)⟩
    have h2 := flat_at E l2 _ _ hy _ _ hu'
    rw [hj, hu] at h2
    injection h2 with h2
    have := hc.cells.2.2 _ _ hy _ _ hu'
    rw [hj] at this
    rw [h2]
    exact this
  obtain ⟨v', w', hr, h2, h3, _, _⟩ := run_append_own_at (P := P) w base t o.type e i0 z E.size bytes T.under hi hz0 hz1 hz2 T.zs T.pos v l1.length (l1.flatMap E.cells) hown ⟨b, off, none⟩ l2.length c (l2.flatMap E.cells) (E.flat_len l2) hcells (E.flat_one l2) (by unfold maxLen; omega) hlen hbase
  obtain ⟨g, cap, rfl, _, _⟩ := h2.form (by omega)
  unfold Oper.wp execOp
  simp only [ho, resolve, invoke, builtin, Sem.run_bind, Sem.run_pure, Result.andThen_ok, List.map_toArray, List.map_cons, List.map_nil, hs, hx, hr]
  have := h g cap w' (by unfold Own; rw [List.length_append, List.flatMap_append]; exact h2) ((Touch.refl _ w).grown h3 (fun k hk => .inl hk))
  rw [List.length_append] at this
  exact this

def u16E : Enc Int := ⟨1, fun x => [.int .u16 x], fun _ => rfl, fun _ u hu => by simp at hu; subst hu; rfl⟩
theorem T_u16s : ElemT Try.prog 24 70 (.int .u16 0) 1 2 := ⟨Try.underlying24, by kernel_rfl, rfl, by decide⟩
theorem row16_own {w : World} {base g n c : Nat} {l : List Int} (h : Own u16E w base 70 (.slice (some ⟨g, 0, none⟩) n c) l) : Row16 w (some ⟨g, 0, none⟩) l := fun h0 => by
  refine ⟨g, 0, rfl, (own_lt h (k := g) rfl).2, fun k hk => ?_⟩
  have := Reads.cells h.reads
  have h2 := this.2.2 k l[k] (List.getElem?_eq_getElem hk) 0 (.int .u16 l[k]) rfl
  simpa [u16E] using h2
theorem row16_reads {w : World} {b off n c : Nat} {l : List Int} (h : Row16 w (some ⟨b, off, none⟩) l) (hn : n = l.length) (h0 : 0 < l.length) : Reads u16E w (.slice (some ⟨b, off, none⟩) n c) l := by
  obtain ⟨b', off', ha, hb, hc⟩ := h h0
  injection ha with ha
  injection ha with e1 e2 _
  subst e1 e2 hn
  refine .inr ⟨b, off, c, rfl, hb, fun k y hy j u hu => ?_⟩
  obtain ⟨hk, rfl⟩ := List.getElem?_eq_some_iff.1 hy
  have : j = 0 ∧ u = .int .u16 l[k] := by
    simp only [u16E] at hu
    cases j with
    | zero => simp at hu; exact ⟨rfl, hu.symm⟩
    | succ j => simp at hu
  obtain ⟨rfl, rfl⟩ := this
  simpa [u16E] using hc k hk
theorem u16_turn {w : World} {base g n c : Nat} {l : List Int} (h : Own u16E w base 70 (.slice (some ⟨g, 0, none⟩) n c) l) {i : Nat} (hi : i < l.length) (x : Int) : Own u16E (w.setCell ⟨g, i, none⟩ (.int .u16 x)) base 70 (.slice (some ⟨g, 0, none⟩) n c) (l.set i x) := by
  have := Own.turn (E := u16E) h hi x
  rw [show i * u16E.size = i from Nat.mul_one i] at this
  exact this
theorem u16_cell {w : World} {base g n c : Nat} {l : List Int} (h : Own u16E w base 70 (.slice (some ⟨g, 0, none⟩) n c) l) {i : Nat} (hi : i < l.length) : w.cell? ⟨g, i, none⟩ = some (.int .u16 (l.getD i 0)) ∧ w.frozen? ⟨g, i, none⟩ = false := by
  obtain ⟨a, c', e⟩ := h.slice
  have en : n = l.length := by injection e
  subst en
  have h' : w.ownsRow base 70 1 (.slice (some ⟨g, 0, none⟩) l.length c) l.length (l.flatMap u16E.cells) := h
  refine ⟨?_, h'.frozenAt _⟩
  obtain ⟨b, off, ha, hb, hc⟩ := row16_own h (by omega)
  injection ha with ha
  injection ha with e1 e2 _
  subst e1 e2
  have := hc i hi
  rw [Nat.zero_add] at this
  rw [this]
  simp [List.getD_eq_getElem?_getD, hi]
end Go.Proofs.Ytkonojjillcfiaa

/- The walk of StarMore. -/
namespace Go.Proofs.Ytkonojjillcfiaa
open Go.RowKit

def newC (l : List Int) (j : Nat) (by_ : Int) : Int := if 1 ≤ by_ ∧ by_ ≤ 1000 ∧ 0 < l.getD j 0 ∧ l.getD j 0 < 60000 then l.getD j 0 + by_ else 0
theorem set_getD (l : List Int) (j : Nat) (x : Int) (hj : j < l.length) (v : Nat) : (l.set j x).getD v 0 = if v = j then x else l.getD v 0 := by
  rw [List.getD_eq_getElem?_getD, List.getElem?_set]
  by_cases e : j = v
  · subst e; simp [hj]
  · rw [if_neg e, if_neg (fun h => e h.symm), List.getD_eq_getElem?_getD]
theorem new_u16 {l : List Int} (hu : U16s l) (j : Nat) (by_ : Int) : U16s (l.set j (newC l j by_)) := fun x hx => by
  rcases List.mem_or_eq_of_mem_set hx with h | h
  · exact hu x h
  · subst h; unfold newC; split <;> omega
theorem new_mono {l : List Int} {j : Nat} (hj : j < l.length) (by_ : Int) : ∀ v, 0 < (l.set j (newC l j by_)).getD v 0 → 0 < l.getD v 0 ∧ l.getD v 0 ≤ (l.set j (newC l j by_)).getD v 0 := fun v hv => by
  rw [set_getD l j _ hj] at hv ⊢
  by_cases e : v = j
  · subst e
    rw [if_pos rfl] at hv ⊢
    unfold newC at hv ⊢
    split at hv
    · next h => rw [if_pos h]; omega
    · omega
  · rw [if_neg e] at hv ⊢; omega
theorem new_other {l : List Int} {j : Nat} (hj : j < l.length) (by_ : Int) : ∀ v, v ≠ j → (l.set j (newC l j by_)).getD v 0 = l.getD v 0 := fun v hv => by
  rw [set_getD l j _ hj, if_neg hv]

/-- A field that was copied. -/
def FreshF (w wx : World) (W H : Int) (n : Nat) (l : List Int) (gb : Nat) : Prop :=
  ∃ rb cp, w.heap.size ≤ gb ∧ gb ≠ rb ∧ Blk wx gb 26 #[.int .i64 W, .int .i64 H, .slice (some ⟨rb, 0, none⟩) n cp] ∧ Own u16E wx w.heap.size 70 (.slice (some ⟨rb, 0, none⟩) n cp) l
theorem freshF_of {w wx : World} {W H : Int} {n : Nat} {l : List Int} {gb rb cp : Nat} (hb : Blk wx gb 26 #[.int .i64 W, .int .i64 H, .slice (some ⟨rb, 0, none⟩) n cp]) (ho : Own u16E wx w.heap.size 70 (.slice (some ⟨rb, 0, none⟩) n cp) l) (hg : w.heap.size ≤ gb) : FreshF w wx W H n l gb :=
  ⟨rb, cp, hg, fun e => by have := hb.ne_own ho (by decide); simp [Value.ownBlock] at this; exact this e.symm, hb, ho⟩

theorem touch3 (w : World) (g : Nat) (x y z : Value) : Touch (fun j => j = g) w (((w.setCell ⟨g, 0, none⟩ x).setCell ⟨g, 1, none⟩ y).setCell ⟨g, 2, none⟩ z) :=
  (((Touch.refl (fun j => j = g) w).setCell (p := ⟨g, 0, none⟩) (.inl rfl) x).setCell (p := ⟨g, 1, none⟩) (.inl rfl) y).setCell (p := ⟨g, 2, none⟩) (.inl rfl) z
theorem touch1 (w : World) (g i : Nat) (x : Value) : Touch (fun j => j = g) w (w.setCell ⟨g, i, none⟩ x) := (Touch.refl (fun j => j = g) w).setCell (p := ⟨g, i, none⟩) (.inl rfl) x

theorem anyT {p : List Nat} {j k u : Nat} (h : p[k]? = some u) : decide (j ∈ p.take (k + 1)) = (decide (j ∈ p.take k) || decide (u = j)) := by
  rw [Bool.eq_iff_iff]
  simp only [Bool.or_eq_true, decide_eq_true_eq]
  rw [List.take_add_one, h]
  simp only [Option.toList_some, List.mem_append, List.mem_singleton]
  exact or_congr Iff.rfl eq_comm

set_option maxRecDepth 100000 in
theorem sm_far {w : World} (W H : Int) (a : Option Addr) (n c : Nat) (x y tx ty b ma mb : Int) (hn : ¬ (n : Int) ≤ 150 ∨ ((n : Int) ≤ 150 ∧ ((n : Int) < 1 ∨ (¬ (n : Int) < 1 ∧ W < 1)))) :
    Calls Try.prog 8 #[.agg #[.int .i64 W, .int .i64 H, .slice a n c], .agg #[.int .i64 x, .int .i64 y, .int .i64 tx, .int .i64 ty, .int .i64 b], .agg #[.int .i64 ma, .int .i64 mb]] w fun e w' => e = .returned (.bool true) ∧ Ext w w' := by
  have HS := hide (fun w' => small10_any W H a n c w')
  rcases hn with hn | ⟨hn, hn2⟩
  · rw [show decide ((n : Int) ≤ 150) = false by simpa using hn] at HS
    clear hn
    go_enter Try.func8, Try.ntmps8
    go_wp2_with (first
      | (go_at_call 27; refine (HS.out _).mono ?_; rintro e w1 ⟨rfl, hb1⟩; obtain ⟨hc1, hf1⟩ := hb1.cells; have hz1 := hb1.size; (repeat (first | rw [World.size_alloc] at hz1 | rw [World.size_drew] at hz1)); have z1_0 : w.heap.size < w1.heap.size := (by omega); have z1_1 : w.heap.size + 1 < w1.heap.size := (by omega); have z1_2 : w.heap.size + 2 < w1.heap.size := (by omega))
      | (go_at_call 28; refine (awake10_any _).mono ?_; rintro e w2 ⟨rfl, hb2⟩))
    go_ret
    exact ⟨rfl, (by (with_reducible (repeat' (first | exact Ext.refl _ | assumption | refine Ext.drew ?_ | refine Ext.drewN ?_ _ | refine Ext.alloc ?_ _ | refine Ext.setCell ?_ ?_ _ | refine Ext.trans ?_ (by assumption)))); all_goals (first | (simp; done) | (simp; omega)))⟩
  · rw [show decide ((n : Int) ≤ 150) = true by simpa using hn] at HS
    clear hn
    rcases hn2 with h1 | ⟨h1, h2⟩
    · obtain rfl : n = 0 := by omega
      clear h1
      go_enter Try.func8, Try.ntmps8
      go_wp2_with (first
        | (go_at_call 27; refine (HS.out _).mono ?_; rintro e w1 ⟨rfl, hb1⟩; obtain ⟨hc1, hf1⟩ := hb1.cells; have hz1 := hb1.size; (repeat (first | rw [World.size_alloc] at hz1 | rw [World.size_drew] at hz1)); have z1_0 : w.heap.size < w1.heap.size := (by omega); have z1_1 : w.heap.size + 1 < w1.heap.size := (by omega); have z1_2 : w.heap.size + 2 < w1.heap.size := (by omega))
        | (go_at_call 28; refine (awake10_any _).mono ?_; rintro e w2 ⟨rfl, hb2⟩))
      go_ret
      exact ⟨rfl, (by (with_reducible (repeat' (first | exact Ext.refl _ | assumption | refine Ext.drew ?_ | refine Ext.drewN ?_ _ | refine Ext.alloc ?_ _ | refine Ext.setCell ?_ ?_ _ | refine Ext.trans ?_ (by assumption)))); all_goals (first | (simp; done) | (simp; omega)))⟩
    · have d1 : decide ((n : Int) < 1) = false := by simpa using h1
      have d2 : decide (n < 1) = false := by simp; omega
      have d3 : decide (W < 1) = true := by simpa using h2
      clear h1 h2
      go_enter Try.func8, Try.ntmps8
      go_wp2_with (first
        | (go_at_call 27; refine (HS.out _).mono ?_; rintro e w1 ⟨rfl, hb1⟩; obtain ⟨hc1, hf1⟩ := hb1.cells; have hz1 := hb1.size; (repeat (first | rw [World.size_alloc] at hz1 | rw [World.size_drew] at hz1)); have z1_0 : w.heap.size < w1.heap.size := (by omega); have z1_1 : w.heap.size + 1 < w1.heap.size := (by omega); have z1_2 : w.heap.size + 2 < w1.heap.size := (by omega))
        | (go_at_call 28; refine (awake10_any _).mono ?_; rintro e w2 ⟨rfl, hb2⟩))
      go_ret
      exact ⟨rfl, (by (with_reducible (repeat' (first | exact Ext.refl _ | assumption | refine Ext.drew ?_ | refine Ext.drewN ?_ _ | refine Ext.alloc ?_ _ | refine Ext.setCell ?_ ?_ _ | refine Ext.trans ?_ (by assumption)))); all_goals (first | (simp; done) | (simp; omega)))⟩

set_option maxRecDepth 100000 in
set_option maxHeartbeats 4000000 in
theorem sm_near {w : World} {W H : Int} {a : Option Addr} {l : List Int} (c : Nat) (x y tx ty b ma mb : Int) (hr : Row16 w a l) (hu : U16s l) (hn : (l.length : Int) ≤ 150) (hn1 : ¬ (l.length : Int) < 1) (hW : ¬ W < 1) (im : InI ma) :
    Calls Try.prog 8 #[.agg #[.int .i64 W, .int .i64 H, .slice a l.length c], .agg #[.int .i64 x, .int .i64 y, .int .i64 tx, .int .i64 ty, .int .i64 b], .agg #[.int .i64 ma, .int .i64 mb]] w fun e w' => e = .returned (.bool true) ∧ Ext w w' := by
  have HS := hide (fun w' => small10_any W H a l.length c w')
  rw [show decide ((l.length : Int) ≤ 150) = true by simpa using hn] at HS
  obtain ⟨ab, aoff, ha, hab, hcell⟩ := hr (by omega)
  subst ha
  have hbd := Int.tmod_lt_of_pos ma (b := (l.length : Int)) (by omega)
  have hbd2 := Int.lt_tmod_of_pos ma (b := (l.length : Int)) (by omega)
  obtain ⟨q, hq⟩ : ∃ z, ma.tmod (l.length : Int) = z := ⟨_, rfl⟩
  rw [hq] at hbd hbd2
  have k1 : IntKind.i64.wrap (q + (l.length : Int)) = q + (l.length : Int) := IntWalk.i64_in _ (by omega)
  obtain ⟨j, hjd⟩ : ∃ j : Nat, (q + (l.length : Int)).tmod (l.length : Int) = (j : Int) := ⟨((q + (l.length : Int)).tmod (l.length : Int)).toNat, by rw [Int.tmod_eq_emod_of_nonneg (by omega)]; have := Int.emod_nonneg (q + (l.length : Int)) (b := (l.length : Int)) (by omega); omega⟩
  have hjl : j < l.length := by
    have h := Int.emod_lt_of_pos (q + (l.length : Int)) (b := (l.length : Int)) (by omega)
    rw [← Int.tmod_eq_emod_of_nonneg (by omega), hjd] at h
    omega
  have H1 := hide (fun (w' : World) (hx : Ext w w') => sFind_uni (w := w') W H (some ⟨ab, aoff, none⟩) c x y tx ty (l.length : Int) (hr.ext hx) hu)
  have H2 := hide (fun (w' : World) (rb cp : Nat) (hr' : Row16 w' (some ⟨rb, 0, none⟩) (l.set j (newC l j mb))) => sFind_uni (w := w') W H (some ⟨rb, 0, none⟩) cp x y tx ty ((l.set j (newC l j mb)).length : Int) hr' (new_u16 hu j mb))
  have HL := hide (fun (p1 p2 : List Nat) (c1 c2 k1 k2 e1 e2 : Int) (h1 : Srch W H l x y tx ty l.length p1 c1 k1 e1) (h2 : Srch W H (l.set j (newC l j mb)) x y tx ty (l.set j (newC l j mb)).length p2 c2 k2 e2) => srch_more (List.length_set ..) (new_mono hjl mb) j (new_other hjl mb) h1 h2)
  have HLEN : Hid ((l.set j (newC l j mb)).length = l.length) := hide (List.length_set ..)
  have HRR := hide (fun (w' : World) (hx : Ext w w') => row16_reads (c := c) (hr.ext hx) rfl (by omega))
  have hlj := hcell j hjl
  have hgd : l.getD j 0 = l[j] := by simp [List.getD_eq_getElem?_getD, hjl]
  rw [← hgd] at hlj
  have hub := costI_bd hu 1 (j, 0)
  rw [show costI l 1 (j, 0) = l.getD j 0 by unfold costI; simp] at hub
  have HU := hide hu
  rw [HLEN.out] at H2
  have HNC := hide (show newC l j mb = if 1 ≤ mb ∧ mb ≤ 1000 ∧ 0 < l.getD j 0 ∧ l.getD j 0 < 60000 then l.getD j 0 + mb else 0 from rfl)
  have HNJ := hide (show (l.set j (newC l j mb)).getD j 0 = newC l j mb by rw [set_getD l j _ hjl, if_pos rfl])
  obtain ⟨n, hnn⟩ : ∃ n, l.length = n := ⟨_, rfl⟩
  have HN := hide hnn
  rw [hnn] at HS H1 H2 HRR hn hn1 hq k1 hjd hjl ⊢
  have HJL := hide hjl
  obtain ⟨lj, hljv⟩ : ∃ z, l.getD j 0 = z := ⟨_, rfl⟩
  rw [hljv] at hlj hub HNC
  have d0 : ¬ (n : Int) = 0 := by omega
  have d4 : ¬ n = 0 := by omega
  have d1 : decide ((n : Int) < 1) = false := by simpa using hn1
  have d2 : decide (n < 1) = false := by simp; omega
  have d3 : decide (W < 1) = false := by simpa using hW
  clear hnn hr hu hcell hgd hbd hbd2 im hljv hn1
  go_enter Try.func8, Try.ntmps8
  go_wp2_with (go_at_call 27; refine (HS.out _).mono ?_; rintro e w1 ⟨rfl, hb1⟩; obtain ⟨hc1, hf1⟩ := hb1.cells; have hz1 := hb1.size; (repeat (first | rw [World.size_alloc] at hz1 | rw [World.size_drew] at hz1)); have z1_0 : w.heap.size < w1.heap.size := (by omega); have z1_1 : w.heap.size + 1 < w1.heap.size := (by omega); have z1_2 : w.heap.size + 2 < w1.heap.size := (by omega))
  have BF1 : Hid (Blk w1 (w.heap.size) 26 #[.int .i64 W, .int .i64 H, .slice (some ⟨ab, aoff, none⟩) n c]) := hide (by refine Blk.ext ?_ hb1; (repeat' (first | exact Blk.new_ (by simp) | refine Blk.drew ?_ | refine Blk.over ?_)))
  have BE1 : Hid (Blk w1 (w.heap.size + 1) 58 #[.int .i64 x, .int .i64 y, .int .i64 tx, .int .i64 ty, .int .i64 b]) := hide (by refine Blk.ext ?_ hb1; (repeat' (first | exact Blk.new_ (by simp) | refine Blk.drew ?_ | refine Blk.over ?_)))
  have BM1 : Hid (Blk w1 (w.heap.size + 2) 72 #[.int .i64 ma, .int .i64 mb]) := hide (by refine Blk.ext ?_ hb1; (repeat' (first | exact Blk.new_ (by simp) | refine Blk.drew ?_ | refine Blk.over ?_)))
  have HX1 := hide (show Ext w w1 from (by (with_reducible (repeat' (first | exact Ext.refl _ | assumption | refine Ext.drew ?_ | refine Ext.drewN ?_ _ | refine Ext.alloc ?_ _ | refine Ext.setCell ?_ ?_ _ | refine Ext.trans ?_ (by assumption)))); all_goals (first | (simp; done) | (simp; omega))))
  clear hc1 hf1 d1 d2 d3
  have f0 := BF1.out.at 0 rfl; have f1 := BF1.out.at 1 rfl; have f2 := BF1.out.at 2 rfl; have fz := BF1.out.lt
  have g0 := BE1.out.at 0 rfl; have g1 := BE1.out.at 1 rfl; have g2 := BE1.out.at 2 rfl; have g3 := BE1.out.at 3 rfl; have g4 := BE1.out.at 4 rfl; have gz := BE1.out.lt
  have m0 := BM1.out.at 0 rfl; have m1 := BM1.out.at 1 rfl; have mz := BM1.out.lt
  refine seqH_start (S := (fun W => (∀ b o, b < w1.heap.size → W.cell? ⟨b, o, none⟩ = w1.cell? ⟨b, o, none⟩) ∧ Ext w1 W)) [(0, true), (1, true), (2, true), (3, true), (4, true), (5, true), (6, true), (7, true), (8, true), (9, true), (10, true), (11, true), (12, true), (13, true), (14, true)] (by kernel_rfl) (by kernel_rfl) (by kernel_rfl) (by decide) (fun _ _ d _ _ h => by cases d <;> exact h) (by first | with_reducible exact pr_start _ | exact pr_of (by (with_reducible (repeat' (first | exact Ext.refl _ | assumption | refine Ext.drew ?_ | refine Ext.drewN ?_ _ | refine Ext.alloc ?_ _ | refine Ext.setCell ?_ ?_ _ | refine Ext.trans ?_ (by assumption)))); all_goals (first | (simp; done) | (simp; omega)))) (fun hHeld => ?_)
  iterate 15 (apply SeqH.free; (· (simp only [List.getElem?_toArray, List.getElem?_cons_succ, List.getElem?_cons_zero]; rfl)); (· first | exact Or.inr ⟨by rfl, rfl⟩ | (refine Or.inl ⟨by rfl, ?_⟩; intro w hSw; (try dsimp only at hSw); go_simp; try with_reducible rfl)); try simp only [Act.put, List.setIfInBounds_toArray, List.set_cons_zero, List.set_cons_succ])
  refine SeqH.done ?_
  clear hHeld hq k1 hjd d0 d4
  go_wp2_with fail
  obtain ⟨w2, hw2⟩ : ∃ w2, w2 = w1.drew := ⟨_, rfl⟩
  have hx2 : Ext w1 w2 := by rw [hw2]; exact (Ext.refl _).drew
  have BF2 := hide (Blk.ext BF1.out hx2)
  have BE2 := hide (Blk.ext BE1.out hx2)
  have BM2 := hide (Blk.ext BM1.out hx2)
  have HX2 := hide (HX1.out.trans hx2)
  have hz2 : w.heap.size + 3 ≤ w2.heap.size := by have := BM2.out.lt; omega
  rw [← hw2]
  clear hw2 hx2 f0 f1 f2 fz g0 g1 g2 g3 g4 gz m0 m1 mz BF1 BE1 BM1 HX1 hb1 hz1 z1_0 z1_1 z1_2
  have RD2 := hide (HRR.out w2 HX2.out)
  have f0 := BF2.out.at 0 rfl; have f1 := BF2.out.at 1 rfl; have f2 := BF2.out.at 2 rfl; have fz := BF2.out.lt
  go_upto_region 4 with (fail)
  go_cut [8] (fun s8 wx => ∃ gb, s8 = .pointer (some ⟨gb, 0, none⟩) ∧ FreshF w2 wx W H n l gb ∧ Ext w2 wx)
  case rest =>
    obtain ⟨gb, rfl, hF, hxc⟩ := hcut
    obtain ⟨w5, rfl⟩ : ∃ z, z = wc := ⟨_, rfl⟩
    obtain ⟨rb, cp, hgb, hgr, hbg, hor⟩ := hF
    have hrl := own_lt hor (k := rb) rfl
    have hgl := hbg.lt
    have BG := hide hbg
    have OR := hide hor
    have BFc := hide (Blk.ext BF2.out hxc)
    have BEc := hide (Blk.ext BE2.out hxc)
    have BMc := hide (Blk.ext BM2.out hxc)
    have HXc := hide (HX2.out.trans hxc)
    have hzc := hxc.size
    have hljc : w5.cell? ⟨ab, aoff + j, none⟩ = some (.int .u16 lj) := ((HXc.out).cell (p := ⟨ab, aoff + j, none⟩) hab).trans hlj
    have habc : ab < w5.heap.size := Nat.lt_of_lt_of_le hab HXc.out.size
    have hc0 := u16_cell OR.out (i := j) (by rw [HN.out]; exact hjl)
    have r0 := hc0.1
    have r1 := hc0.2
    clear hlj hxc hbg hor f0 f1 f2 fz BF2 BE2 BM2 HX2 hc0
    have f0 := BFc.out.at 0 rfl; have f1 := BFc.out.at 1 rfl; have f2 := BFc.out.at 2 rfl; have fz := BFc.out.lt
    have m0 := BMc.out.at 0 rfl; have m1 := BMc.out.at 1 rfl; have mz := BMc.out.lt
    have h0 := BG.out.at 0 rfl; have h1 := BG.out.at 1 rfl; have h2 := BG.out.at 2 rfl; have hz := BG.out.lt
    have jn : (j : Int) < (n : Int) := by omega
    have hgd0 : l.getD j 0 = l.getD j 0 := rfl
    clear hgd0
    go_upto_region 5 with (fail)
    go_cut [75] from 52 to 75 (fun s75 wx => s75 = .bool (decide (1 ≤ mb ∧ mb ≤ 1000 ∧ 0 < lj ∧ lj < 60000)) ∧ wx = w5)
    case first =>
      go_wp2_with fail
      all_goals (go_meet; exact ⟨by simp [*] <;> omega, rfl⟩)
    case rest =>
      obtain ⟨rfl, rfl⟩ := hcut
      have HOUT := hide (show ∀ w', Own u16E w' w2.heap.size 70 (.slice (some ⟨rb, 0, none⟩) n cp) (l.set j (newC l j mb)) ↔ Own u16E w' w2.heap.size 70 (.slice (some ⟨rb, 0, none⟩) n cp) (l.set j (if 1 ≤ mb ∧ mb ≤ 1000 ∧ 0 < lj ∧ lj < 60000 then lj + mb else 0)) from fun w' => by rw [HNC.out])
      have hgne : rb ≠ gb := fun e => hgr e.symm
      go_upto_if 75 with (fail)
      go_cut [75] from 75 to 92 (fun s75 wx => Own u16E wx w2.heap.size 70 (.slice (some ⟨rb, 0, none⟩) n cp) (l.set j (newC l j mb)) ∧ Touch (fun k => k = rb) wc wx)
      case first =>
        by_cases hcond : 1 ≤ mb ∧ mb ≤ 1000 ∧ 0 < lj ∧ lj < 60000
        · have hd : decide (1 ≤ mb ∧ mb ≤ 1000 ∧ 0 < lj ∧ lj < 60000) = true := by simpa using hcond
          have u1 : IntKind.u16.wrap mb = mb := by rw [IntKind.wrap_u16]; omega
          have u2 : IntKind.u16.wrap (lj + mb) = lj + mb := by rw [IntKind.wrap_u16]; omega
          have O7 := hide ((HOUT.out _).2 (by rw [if_pos hcond]; exact u16_turn OR.out (i := j) (by rw [HN.out]; exact hjl) (lj + mb)))
          clear HOUT
          generalize decide (1 ≤ mb ∧ mb ≤ 1000 ∧ 0 < lj ∧ lj < 60000) = dd at *
          subst hd
          clear hcond
          have S0 : Hid (CellsAt [(⟨gb, 2, none⟩, .slice (some ⟨rb, 0, none⟩) n cp), (⟨w.heap.size, 2, none⟩, .slice (some ⟨ab, aoff, none⟩) n c), (⟨ab, aoff + j, none⟩, .int .u16 lj), (⟨w.heap.size + 2, 1, none⟩, .int .i64 mb)] wc) := hide ⟨h2, f2, hljc, m1, trivial⟩
          have HNE : Hid (∀ p ∈ ([(⟨gb, 2, none⟩, .slice (some ⟨rb, 0, none⟩) n cp), (⟨w.heap.size, 2, none⟩, .slice (some ⟨ab, aoff, none⟩) n c), (⟨ab, aoff + j, none⟩, .int .u16 lj), (⟨w.heap.size + 2, 1, none⟩, .int .i64 mb)] : List (Addr × Value)), p.1 ≠ ⟨rb, j, none⟩) := hide (by
            intro p hp e
            simp only [List.mem_cons, List.not_mem_nil, or_false] at hp
            rcases hp with rfl | rfl | rfl | rfl
            all_goals (simp only [Addr.mk.injEq] at e; omega))
          go_wp2_with fail
          refine seqH_start (S := (CellsAt [(⟨gb, 2, none⟩, .slice (some ⟨rb, 0, none⟩) n cp), (⟨w.heap.size, 2, none⟩, .slice (some ⟨ab, aoff, none⟩) n c), (⟨ab, aoff + j, none⟩, .int .u16 lj), (⟨w.heap.size + 2, 1, none⟩, .int .i64 mb)])) [(0, true), (1, true), (2, true), (3, true), (4, true), (5, true), (6, true), (7, true), (8, true), (9, true), (10, true), (11, true), (12, true), (13, false)] (by kernel_rfl) (by kernel_rfl) (by kernel_rfl) (by decide) (fun _ _ d _ _ h => by cases d <;> exact h) (CellsAt.ext ((Ext.refl _).drew) S0.out) (fun hHeld => ?_)
          iterate 13 (apply SeqH.free; (· (simp only [List.getElem?_toArray, List.getElem?_cons_succ, List.getElem?_cons_zero]; rfl)); (· first | exact Or.inr ⟨by rfl, rfl⟩ | (refine Or.inl ⟨by rfl, ?_⟩; intro w hSw; (try dsimp only at hSw); simp only [CellsAt] at hSw; go_simp; try with_reducible rfl)); try simp only [Act.put, List.setIfInBounds_toArray, List.set_cons_zero, List.set_cons_succ])
          (apply SeqH.step; (· (simp only [List.getElem?_toArray, List.getElem?_cons_succ, List.getElem?_cons_zero]; rfl)); intro K hK; go_simp; refine hK.out _ _ (CellsAt.set HNE.out (CellsAt.ext ((Ext.refl _).drew) S0.out)) (fun hHeld => ?_); clear hK K; try simp only [Act.put, List.setIfInBounds_toArray, List.set_cons_zero, List.set_cons_succ])
          refine SeqH.done ?_
          go_wp2_with fail
          go_meet
          exact ⟨O7.out, (touch1 _ _ _ _).drew⟩
        · have hd : decide (1 ≤ mb ∧ mb ≤ 1000 ∧ 0 < lj ∧ lj < 60000) = false := by simpa using hcond
          have O7 := hide ((HOUT.out _).2 (by rw [if_neg hcond]; exact u16_turn OR.out (i := j) (by rw [HN.out]; exact hjl) 0))
          clear HOUT
          generalize decide (1 ≤ mb ∧ mb ≤ 1000 ∧ 0 < lj ∧ lj < 60000) = dd at *
          subst hd
          clear hcond
          go_wp2_with fail
          go_meet
          exact ⟨O7.out, touch1 _ _ _ _⟩
      case rest =>
        obtain ⟨hO, hT⟩ := hcut
        obtain ⟨w6, rfl⟩ : ∃ z, z = wc := ⟨_, rfl⟩
        have O6 := hide hO
        have BF6 := hide (BFc.out.touch hT (by omega))
        have BE6 := hide (BEc.out.touch hT (by omega))
        have BG6 := hide (BG.out.touch hT (fun e => hgr e))
        have HX6 := hide (((Touch.of_ext (S := fun _ => False) HXc.out).after hT (fun k hk e => by omega)).ext)
        have hz6 := hT.size
        have RW6 := hide (row16_own hO)
        clear hO hT HOUT r0 r1 hljc h0 h1 h2 hz m0 m1 mz f0 f1 f2 fz BFc BEc BG BMc HXc OR
        have f0 := BF6.out.at 0 rfl; have f1 := BF6.out.at 1 rfl; have f2 := BF6.out.at 2 rfl; have fz := BF6.out.lt
        have g0 := BE6.out.at 0 rfl; have g1 := BE6.out.at 1 rfl; have g2 := BE6.out.at 2 rfl; have g3 := BE6.out.at 3 rfl; have g4 := BE6.out.at 4 rfl; have gz := BE6.out.lt
        go_wp2_with fail
        refine (H1.out _ HX6.out).mono ?_
        rintro e w7 ⟨hb7, p1, c1, k1, e1, v1, hs1, rfl, ho1⟩
        have HS1 := hide hs1
        obtain ⟨va, vc, hv1⟩ := ho1.slice
        rw [List.length_map] at hv1
        subst hv1
        have O17 := hide ho1.reads
        have BG7 := hide (Blk.ext BG6.out hb7)
        have BE7 := hide (Blk.ext BE6.out hb7)
        have BF7 := hide (Blk.ext BF6.out hb7)
        have HX7 := hide (HX6.out.trans hb7)
        have RW7 := hide (RW6.out.ext hb7)
        have O67 := hide (O6.out.ext hb7)
        clear hs1 ho1 hb7 f0 f1 f2 fz g0 g1 g2 g3 g4 gz BG6 BE6 BF6 HX6 RW6 O6
        have g0 := BE7.out.at 0 rfl; have g1 := BE7.out.at 1 rfl; have g2 := BE7.out.at 2 rfl; have g3 := BE7.out.at 3 rfl; have g4 := BE7.out.at 4 rfl; have gz := BE7.out.lt
        have h0 := BG7.out.at 0 rfl; have h1 := BG7.out.at 1 rfl; have h2 := BG7.out.at 2 rfl; have hz := BG7.out.lt
        go_wp2_with fail
        obtain ⟨w8, hw8⟩ : ∃ w8, w8 = w7.alloc (.cells #[.slice va p1.length vc, .int .u64 c1, .int .i64 k1] 61) := ⟨_, rfl⟩
        have hx8 : Ext w7 w8 := by rw [hw8]; exact (Ext.refl _).alloc _
        have Y8 := hide (show Blk w8 w7.heap.size 61 #[.slice va p1.length vc, .int .u64 c1, .int .i64 k1] by rw [hw8]; exact Blk.new_ rfl)
        have HX8 := hide (HX7.out.trans hx8)
        have BG8 := hide (Blk.ext BG7.out hx8)
        have BF8 := hide (Blk.ext BF7.out hx8)
        have O18 := hide (O17.out.ext hx8)
        have O68 := hide (O67.out.ext hx8)
        have RW8 := hide (RW7.out.ext hx8)
        rw [← hw8]
        obtain ⟨yb, hyb⟩ : ∃ z, w7.heap.size = z := ⟨_, rfl⟩
        rw [hyb] at Y8 ⊢
        clear hw8 hx8 g0 g1 g2 g3 g4 gz h0 h1 h2 hz BG7 BF7 BE7 HX7 O17 O67 RW7 hyb
        refine (H2.out _ rb cp RW8.out).mono ?_
        rintro e w9 ⟨hb9, p2, c2, k2, e2, v2, hs2, rfl, ho2⟩
        have hL := HL.out _ _ _ _ _ _ _ _ (by rw [HN.out]; exact HS1.out) (by rw [HLEN.out, HN.out]; exact hs2)
        obtain ⟨ua, uc, hu2⟩ := ho2.slice
        rw [List.length_map] at hu2
        subst hu2
        have Y9 := hide (Blk.ext Y8.out hb9)
        have BG9 := hide (Blk.ext BG8.out hb9)
        have BF9 := hide (Blk.ext BF8.out hb9)
        have O19 := hide (O18.out.ext hb9)
        have O69 := hide (O68.out.ext hb9)
        have HX9 := hide (HX8.out.trans hb9)
        clear hs2 ho2 hb9 BG8 BF8 O18 O68 HX8 RW8 Y8
        rcases hL with ⟨n1, rfl, rfl⟩ | ⟨rfl, hpl, hpn, hnot, hcase⟩
        · have f1 : (e2 != 0) = true := by simpa using n1
          have f2 : (e2 == e2) = true := by simp
          simp only [List.length_nil]
          have hx9 := HX9.out
          clear n1
          go_wp2_with (go_at_call 28; refine (awake10_any _).mono ?_; rintro e w10 ⟨rfl, hb10⟩)
          go_ret
          exact ⟨rfl, (by (with_reducible (repeat' (first | exact Ext.refl _ | assumption | refine Ext.drew ?_ | refine Ext.drewN ?_ _ | refine Ext.alloc ?_ _ | refine Ext.setCell ?_ ?_ _ | refine Ext.trans ?_ (by assumption)))); all_goals (first | (simp; done) | (simp; omega)))⟩
        · have HNOT := hide hnot
          have HCASE := hide hcase
          have HPN := hide hpn
          clear hnot hcase hpn
          go_wp2_with fail
          obtain ⟨w10, hw10⟩ : ∃ w10, w10 = w9.alloc (.cells #[.slice ua p2.length uc, .int .u64 c2, .int .i64 k2] 61) := ⟨_, rfl⟩
          have hx10 : Ext w9 w10 := by rw [hw10]; exact (Ext.refl _).alloc _
          have Z10 := hide (show Blk w10 w9.heap.size 61 #[.slice ua p2.length uc, .int .u64 c2, .int .i64 k2] by rw [hw10]; exact Blk.new_ rfl)
          have Y10 := hide (Blk.ext Y9.out hx10)
          have BG10 := hide (Blk.ext BG9.out hx10)
          have BF10 := hide (Blk.ext BF9.out hx10)
          have O110 := hide (O19.out.ext hx10)
          have O610 := hide (O69.out.ext hx10)
          have HX10 := hide (HX9.out.trans hx10)
          rw [← hw10]
          obtain ⟨zb, hzb⟩ : ∃ z, w9.heap.size = z := ⟨_, rfl⟩
          rw [hzb] at Z10 ⊢
          clear hw10 hx10 hzb Y9 BG9 BF9 O19 O69 HX9
          rw [HN.out] at hpl
          go_loopw [13, 14] (fun tv iv wr => ∃ k : Nat, k ≤ p1.length ∧ iv = .int .i64 k ∧ tv = .bool (decide (j ∈ p1.take k)) ∧ Ext w10 wr) (fun _ iv _ => p1.length - (intOf iv).toNat)
          case atStart => exact ⟨0, Nat.zero_le _, rfl, by simp, Ext.refl _⟩
          case round =>
            obtain ⟨k, hk, rfl, rfl, hxr⟩ := hrel
            have HXR := hide hxr
            have Yr := hide (Blk.ext Y10.out hxr)
            have BFr := hide (Blk.ext BF10.out hxr)
            clear hxr
            have y0 := Yr.out.at 0 rfl; have y1 := Yr.out.at 1 rfl; have y2 := Yr.out.at 2 rfl; have yz := Yr.out.lt
            by_cases hlt : k < p1.length
            · have OPr := hide (O110.out.ext HXR.out)
              obtain ⟨u, hu⟩ : ∃ u, p1[k]? = some u := ⟨_, List.getElem?_eq_getElem hlt⟩
              obtain ⟨pb, po, pc, he, hpb, hpc⟩ := reads_cell OPr.out (by rw [List.length_map]; omega)
              injection he with e1 e0 e2
              clear e0
              subst e1 e2
              obtain ⟨d0, d1⟩ := hpc k (cellV W u) (by rw [List.getElem?_map, hu]; rfl)
              simp only [cellV] at d0 d1
              have hun := HPN.out u (List.mem_of_getElem? hu)
              rw [HN.out] at hun
              have hj1 : j < n := HJL.out
              have q1 : (j : Int).tmod W = vx W j := tmod_in (by omega) (by omega) (by omega)
              have q2 : IntKind.i64.wrap ((j : Int).tdiv W) = vy W j := tdiv_in (by omega) (by omega) (by omega)
              have q2' : IntKind.i64.wrap ((j : Int) / W) = vy W j := by rw [← q2, Int.tdiv_eq_ediv_of_nonneg (by omega)]
              have hW0 : ¬ W = 0 := by omega
              have hq1 := fun w => eq_cell (vx W u, vy W u) (vx W j, vy W j) w
              have hce : cellB (vx W u, vy W u) (vx W j, vy W j) = decide (u = j) := by
                rw [cellB_eq, Bool.eq_iff_iff, decide_eq_true_eq, decide_eq_true_eq]
                constructor
                · intro e
                  injection e with e1 e2
                  rw [← idx_v (show 1 ≤ W by omega) u, ← idx_v (show 1 ≤ W by omega) j, e1, e2]
                · intro e; rw [e]
              rw [hce] at hq1
              simp only at hq1
              have hany := anyT (j := j) hu
              have f0 := BFr.out.at 0 rfl; have f1 := BFr.out.at 1 rfl; have f2 := BFr.out.at 2 rfl; have fz := BFr.out.lt
              have jk : (k : Int) < (p1.length : Int) := by omega
              clear hu hpc hce
              cases hth : decide (j ∈ p1.take k)
              · rw [hth, Bool.false_or] at hany
                have HANY := hide hany
                clear hany hth
                generalize decide (u = j) = r at *
                go_wp2_with fail
                refine seqH_start (S := (fun W => (∀ b o, b < wr.heap.size → W.cell? ⟨b, o, none⟩ = wr.cell? ⟨b, o, none⟩) ∧ Ext wr W)) [(0, true), (1, true), (2, true), (3, true), (4, true), (5, true), (6, true), (7, true), (8, true), (9, true), (10, true), (11, true), (12, true), (13, true), (14, true), (15, true), (16, true), (17, true), (18, true), (19, true), (20, true)] (by kernel_rfl) (by kernel_rfl) (by kernel_rfl) (by decide) (fun _ _ d _ _ h => by cases d <;> exact h) (by first | with_reducible exact pr_start _ | exact pr_of (by (with_reducible (repeat' (first | exact Ext.refl _ | assumption | refine Ext.drew ?_ | refine Ext.drewN ?_ _ | refine Ext.alloc ?_ _ | refine Ext.setCell ?_ ?_ _ | refine Ext.trans ?_ (by assumption)))); all_goals (first | (simp; done) | (simp; omega)))) (fun hHeld => ?_)
                iterate 21 (apply SeqH.free; (· (simp only [List.getElem?_toArray, List.getElem?_cons_succ, List.getElem?_cons_zero]; rfl)); (· first | exact Or.inr ⟨by rfl, rfl⟩ | (refine Or.inl ⟨by rfl, ?_⟩; intro w hSw; (try dsimp only at hSw); go_simp; try with_reducible rfl)); try simp only [Act.put, List.setIfInBounds_toArray, List.set_cons_zero, List.set_cons_succ])
                refine SeqH.done ?_
                have hx := hHeld.2
                clear hHeld
                go_wp2_with fail
                go_roundw
                case rel => exact ⟨k + 1, hlt, by go_num, by rw [HANY.out], HXR.out.trans hx⟩
                case measure => simp [intOf]; omega
              · rw [hth, Bool.true_or] at hany
                have HANY := hide hany
                clear hany hth
                go_wp2_with fail
                refine seqH_start (S := (fun W => (∀ b o, b < wr.heap.size → W.cell? ⟨b, o, none⟩ = wr.cell? ⟨b, o, none⟩) ∧ Ext wr W)) [(0, true), (1, true), (2, true), (3, true), (4, true), (5, true), (6, true), (7, true), (8, true), (9, true), (10, true), (11, true), (12, true), (13, true), (14, true), (15, true), (16, true), (17, true), (18, true), (19, true), (20, true)] (by kernel_rfl) (by kernel_rfl) (by kernel_rfl) (by decide) (fun _ _ d _ _ h => by cases d <;> exact h) (by first | with_reducible exact pr_start _ | exact pr_of (by (with_reducible (repeat' (first | exact Ext.refl _ | assumption | refine Ext.drew ?_ | refine Ext.drewN ?_ _ | refine Ext.alloc ?_ _ | refine Ext.setCell ?_ ?_ _ | refine Ext.trans ?_ (by assumption)))); all_goals (first | (simp; done) | (simp; omega)))) (fun hHeld => ?_)
                iterate 21 (apply SeqH.free; (· (simp only [List.getElem?_toArray, List.getElem?_cons_succ, List.getElem?_cons_zero]; rfl)); (· first | exact Or.inr ⟨by rfl, rfl⟩ | (refine Or.inl ⟨by rfl, ?_⟩; intro w hSw; (try dsimp only at hSw); go_simp; try with_reducible rfl)); try simp only [Act.put, List.setIfInBounds_toArray, List.set_cons_zero, List.set_cons_succ])
                refine SeqH.done ?_
                have hx := hHeld.2
                clear hHeld
                go_wp2_with fail
                go_roundw
                case rel => exact ⟨k + 1, hlt, by go_num, by rw [HANY.out], HXR.out.trans hx⟩
                case measure => simp [intOf]; omega
            · obtain rfl : k = p1.length := by omega
              rw [List.take_length]
              have Zr := hide (Blk.ext Z10.out HXR.out)
              have z0 := Zr.out.at 0 rfl; have z1 := Zr.out.at 1 rfl; have z2 := Zr.out.at 2 rfl; have zz := Zr.out.lt
              by_cases hj : j ∈ p1
              · have hjd : decide (j ∈ p1) = true := by simpa using hj
                rw [hjd]
                clear hj hjd
                rcases HCASE.out with ⟨rfl, hle⟩ | ⟨rfl, hz0, rfl⟩
                · have hg : decide (c1 ≤ c2) = true := by simpa using hle
                  clear hle
                  have hxr := HX10.out.trans HXR.out
                  go_wp2_with (go_at_call 28; refine (awake10_any _).mono ?_; rintro e w11 ⟨rfl, hb11⟩)
                  go_ret
                  exact ⟨rfl, (by (with_reducible (repeat' (first | exact Ext.refl _ | assumption | refine Ext.drew ?_ | refine Ext.drewN ?_ _ | refine Ext.alloc ?_ _ | refine Ext.setCell ?_ ?_ _ | refine Ext.trans ?_ (by assumption)))); all_goals (first | (simp; done) | (simp; omega)))⟩
                · have BGr := hide (Blk.ext BG10.out HXR.out)
                  have g0 := BGr.out.at 0 rfl; have g1 := BGr.out.at 1 rfl; have g2 := BGr.out.at 2 rfl; have gz := BGr.out.lt
                  have hcr := (u16_cell (O610.out.ext HXR.out) (i := j) (by rw [HLEN.out, HN.out]; exact HJL.out)).1
                  rw [hz0] at hcr
                  have hrz := (own_lt (O610.out.ext HXR.out) (k := rb) rfl).2
                  have jn : (j : Int) < (n : Int) := by have := HJL.out; omega
                  simp only [List.length_nil] at z0 ⊢
                  clear hz0
                  have hxr := HX10.out.trans HXR.out
                  go_wp2_with (go_at_call 28; refine (awake10_any _).mono ?_; rintro e w11 ⟨rfl, hb11⟩)
                  go_ret
                  exact ⟨rfl, (by (with_reducible (repeat' (first | exact Ext.refl _ | assumption | refine Ext.drew ?_ | refine Ext.drewN ?_ _ | refine Ext.alloc ?_ _ | refine Ext.setCell ?_ ?_ _ | refine Ext.trans ?_ (by assumption)))); all_goals (first | (simp; done) | (simp; omega)))⟩
              · have hjd : decide (j ∈ p1) = false := by simpa using hj
                rw [hjd]
                obtain ⟨rfl, rfl⟩ := HNOT.out hj
                clear hj hjd HCASE
                have f9 : (c2 == c2) = true := by simp
                have hxr := HX10.out.trans HXR.out
                go_wp2_with (go_at_call 28; refine (awake10_any _).mono ?_; rintro e w11 ⟨rfl, hb11⟩)
                go_ret
                exact ⟨rfl, (by (with_reducible (repeat' (first | exact Ext.refl _ | assumption | refine Ext.drew ?_ | refine Ext.drewN ?_ _ | refine Ext.alloc ?_ _ | refine Ext.setCell ?_ ?_ _ | refine Ext.trans ?_ (by assumption)))); all_goals (first | (simp; done) | (simp; omega)))⟩
  go_region_held3 (fun W => (∀ b o, b < w2.heap.size → W.cell? ⟨b, o, none⟩ = w2.cell? ⟨b, o, none⟩) ∧ Ext w2 W) (first | with_reducible exact pr_start _ | exact pr_of (by (with_reducible (repeat' (first | exact Ext.refl _ | assumption | refine Ext.drew ?_ | refine Ext.drewN ?_ _ | refine Ext.alloc ?_ _ | refine Ext.setCell ?_ ?_ _ | refine Ext.trans ?_ (by assumption)))); all_goals (first | (simp; done) | (simp; omega))))
    (first | (refine step_app_all u16E T_u16s (by rfl) _ _ (by rfl) w2.heap.size (.slice (some ⟨w2.heap.size, 0, none⟩) 0 0) [] l (by rfl) (Own.drew (Own.lit0 u16E w2 _ _ _ rfl (Nat.le_refl _))) ab aoff c (by rw [HN.out]; rfl) (by rw [HN.out]; exact RD2.out.ext (by (with_reducible (repeat' (first | exact Ext.refl _ | assumption | refine Ext.drew ?_ | refine Ext.drewN ?_ _ | refine Ext.alloc ?_ _ | refine Ext.setCell ?_ ?_ _ | refine Ext.trans ?_ (by assumption)))); all_goals (first | (simp; done) | (simp; omega)))) (by have := HN.out; simp; omega) (by have := HN.out; simp; omega) (by have := HN.out; simp; omega) (by simp <;> omega) ?_; intro g9 c9 w9 o9 t9; have hlt9 := (own_lt o9 (k := g9) rfl); have x9 : Ext w2 w9 := ((Touch.of_ext (S := fun _ => False) (show Ext w2 _ from (by (with_reducible (repeat' (first | exact Ext.refl _ | assumption | refine Ext.drew ?_ | refine Ext.drewN ?_ _ | refine Ext.alloc ?_ _ | refine Ext.setCell ?_ ?_ _ | refine Ext.trans ?_ (by assumption)))); all_goals (first | (simp; done) | (simp; omega))))).after t9 (fun k hk h => by simp only [Value.ownBlock, Option.some.injEq] at h; first | omega | (simp at h; omega))).ext; rw [List.nil_append] at o9; have O9 := hide o9; have z9 := x9.size; clear o9 t9) | (refine step_app_all u16E T_u16s (by rfl) _ _ (by rfl) w2.heap.size (.slice (some ⟨w2.heap.size, 0, none⟩) 0 0) [] l (by rfl) (Own.drew ((Own.lit0 u16E w2 _ _ _ rfl (Nat.le_refl _)).alloc _)) ab aoff c (by rw [HN.out]; rfl) (by rw [HN.out]; exact RD2.out.ext (by (with_reducible (repeat' (first | exact Ext.refl _ | assumption | refine Ext.drew ?_ | refine Ext.drewN ?_ _ | refine Ext.alloc ?_ _ | refine Ext.setCell ?_ ?_ _ | refine Ext.trans ?_ (by assumption)))); all_goals (first | (simp; done) | (simp; omega)))) (by have := HN.out; simp; omega) (by have := HN.out; simp; omega) (by have := HN.out; simp; omega) (by simp <;> omega) ?_; intro g9 c9 w9 o9 t9; have hlt9 := (own_lt o9 (k := g9) rfl); have x9 : Ext w2 w9 := ((Touch.of_ext (S := fun _ => False) (show Ext w2 _ from (by (with_reducible (repeat' (first | exact Ext.refl _ | assumption | refine Ext.drew ?_ | refine Ext.drewN ?_ _ | refine Ext.alloc ?_ _ | refine Ext.setCell ?_ ?_ _ | refine Ext.trans ?_ (by assumption)))); all_goals (first | (simp; done) | (simp; omega))))).after t9 (fun k hk h => by simp only [Value.ownBlock, Option.some.injEq] at h; first | omega | (simp at h; omega))).ext; rw [List.nil_append] at o9; have O9 := hide o9; have z9 := x9.size; have B9 := hide (Blk.touch (show Blk ((w2.alloc (.cells #[] 70)).alloc (.cells #[.int .i64 0, .int .i64 0, .slice none 0 0] 26)).drew (w2.heap.size + 1) 26 #[.int .i64 0, .int .i64 0, .slice none 0 0] from Blk.drew (Blk.new_ (by simp))) t9 (fun h => by simp only [Value.ownBlock, Option.some.injEq] at h; first | omega | (simp at h; done) | (simp at h; omega))); have b0 := B9.out.at 0 rfl; have b1 := B9.out.at 1 rfl; have b2 := B9.out.at 2 rfl; have bz := B9.out.lt; have bf0 := B9.out.frozen 0; have bf1 := B9.out.frozen 1; have bf2 := B9.out.frozen 2; clear o9 t9) | (refine step_app_all u16E T_u16s (by rfl) _ _ (by rfl) w2.heap.size (.slice (some ⟨w2.heap.size + 1, 0, none⟩) 0 0) [] l (by rfl) (Own.drew (Own.lit0 u16E (w2.alloc _) _ _ _ (by simp) (by simp))) ab aoff c (by rw [HN.out]; rfl) (by rw [HN.out]; exact RD2.out.ext (by (with_reducible (repeat' (first | exact Ext.refl _ | assumption | refine Ext.drew ?_ | refine Ext.drewN ?_ _ | refine Ext.alloc ?_ _ | refine Ext.setCell ?_ ?_ _ | refine Ext.trans ?_ (by assumption)))); all_goals (first | (simp; done) | (simp; omega)))) (by have := HN.out; simp; omega) (by have := HN.out; simp; omega) (by have := HN.out; simp; omega) (by simp <;> omega) ?_; intro g9 c9 w9 o9 t9; have hlt9 := (own_lt o9 (k := g9) rfl); have x9 : Ext w2 w9 := ((Touch.of_ext (S := fun _ => False) (show Ext w2 _ from (by (with_reducible (repeat' (first | exact Ext.refl _ | assumption | refine Ext.drew ?_ | refine Ext.drewN ?_ _ | refine Ext.alloc ?_ _ | refine Ext.setCell ?_ ?_ _ | refine Ext.trans ?_ (by assumption)))); all_goals (first | (simp; done) | (simp; omega))))).after t9 (fun k hk h => by simp only [Value.ownBlock, Option.some.injEq] at h; first | omega | (simp at h; omega))).ext; rw [List.nil_append] at o9; have O9 := hide o9; have z9 := x9.size; have B9 := hide (Blk.touch (show Blk ((w2.alloc (.cells #[.int .i64 0, .int .i64 0, .slice none 0 0] 26)).alloc (.cells #[] 70)).drew w2.heap.size 26 #[.int .i64 0, .int .i64 0, .slice none 0 0] from Blk.drew (Blk.over (Blk.new_ rfl))) t9 (fun h => by simp only [Value.ownBlock, Option.some.injEq] at h; first | omega | (simp at h; done) | (simp at h; omega))); have b0 := B9.out.at 0 rfl; have b1 := B9.out.at 1 rfl; have b2 := B9.out.at 2 rfl; have bz := B9.out.lt; have bf0 := B9.out.frozen 0; have bf1 := B9.out.frozen 1; have bf2 := B9.out.frozen 2; clear o9 t9))
  all_goals (rename_i hS; have hSx := hide hS.2; clear hS; go_wp2_with fail; go_meet)
  · refine ⟨_, rfl, freshF_of (rb := g9) (cp := c9) (by rw [← HN.out]; exact Blk.new_ rfl) (by rw [← HN.out]; exact O9.out.alloc _) (by omega), hSx.out⟩
  · refine ⟨_, rfl, freshF_of (rb := g9) (cp := c9) (by rw [← HN.out]; exact ((B9.out.set_ 0 (.int .i64 W)).set_ 1 (.int .i64 H)).set_ 2 (.slice (some ⟨g9, 0, none⟩) l.length c9)) (by
      rw [← HN.out]
      have hne := B9.out.ne_own O9.out (by decide)
      exact Own.touch O9.out (touch3 w9 _ _ _ _) (fun k hk e => hne (hk.trans (congrArg some e)))) (by omega), hSx.out⟩
  · refine ⟨_, rfl, freshF_of (rb := g9) (cp := c9) (by rw [← HN.out]; exact ((B9.out.set_ 0 (.int .i64 W)).set_ 1 (.int .i64 H)).set_ 2 (.slice (some ⟨g9, 0, none⟩) l.length c9)) (by
      rw [← HN.out]
      have hne := B9.out.ne_own O9.out (by decide)
      exact Own.touch O9.out (touch3 w9 _ _ _ _) (fun k hk e => hne (hk.trans (congrArg some e)))) (by omega), hSx.out⟩
theorem starMore_any {w : World} (W H : Int) (a : Option Addr) (l : List Int) (c : Nat) (x y tx ty b ma mb : Int) (hr : Row16 w a l) (hu : U16s l) (im : InI ma) :
    Calls Try.prog 8 #[.agg #[.int .i64 W, .int .i64 H, .slice a l.length c], .agg #[.int .i64 x, .int .i64 y, .int .i64 tx, .int .i64 ty, .int .i64 b], .agg #[.int .i64 ma, .int .i64 mb]] w fun e w' => e = .returned (.bool true) ∧ Ext w w' := by
  by_cases hn : (l.length : Int) ≤ 150
  · by_cases h1 : (l.length : Int) < 1
    · exact sm_far W H a l.length c x y tx ty b ma mb (.inr ⟨hn, .inl h1⟩)
    · by_cases h2 : W < 1
      · exact sm_far W H a l.length c x y tx ty b ma mb (.inr ⟨hn, .inr ⟨h1, h2⟩⟩)
      · exact sm_near c x y tx ty b ma mb hr hu hn h1 h2 im
  · exact sm_far W H a l.length c x y tx ty b ma mb (.inl hn)
end Go.Proofs.Ytkonojjillcfiaa

/- The law StarMore, as it is said. -/
namespace Go.Proofs.Ytkonojjillcfiaa
open Go.RowKit Go.ChangeShapes Go.WideShapes Go.ChangeAt

set_option maxRecDepth 100000 in
theorem starMore_lifted (os : Os) (started : os.Started) (H : Type) (enc : TypeId × Value → H) :
    ReturnsInHanded {} Try.checked os 8 .any (Rows.starMoreSpec.pre6 enc Try.prog Try.f8 Rows.starMoreRow.domain false) (Rows.starMoreSpec.post enc Try.prog Try.f8 false true false false) := by
  refine returnsInHanded_of_change (C := Try.checked) own started (by kernel_rfl) Try.func8
    (ChangeSpec.witness6 (enc := enc) (C := Try.checked) false ⟨#[], #[.agg #[.int .i64 0, .int .i64 0, .slice none 0 0], .agg #[.int .i64 0, .int .i64 0, .int .i64 0, .int .i64 0, .int .i64 0], .agg #[.int .i64 0, .int .i64 0]], []⟩ 8 (by kernel_rfl) (by kernel_rfl) (by kernel_rfl) (by kernel_rfl)) ?_
  intro W base args ds gs before hval0 hW hcnd hsz
  have hval : ∀ (j : Nat) t v, Try.f8.params[j]? = some t → args[j]? = some v → Value.okWide Try.prog W .any base t v := hval0
  have hW' := hW
  obtain ⟨p, q, hA0, hV, rfl, hfz, hnd⟩ := hW
  have hA : DataW.TrodAll enc Try.prog W 0 (fun _ => true) true Try.f8.params.toList args.toList ds p := hA0
  rw [Try.params8] at hA hval
  obtain ⟨v0, vs0, d0, ds0, p0, q0, hargs, rfl, rfl, h0, r0⟩ := trodAll_cons hA
  obtain ⟨v1, vs1, d1, ds1, p1, q1, rfl, rfl, rfl, h1, r1⟩ := trodAll_cons r0
  obtain ⟨v2, vs2, d2, ds2, p2, q2, rfl, rfl, rfl, h2, r2⟩ := trodAll_cons r1
  obtain ⟨rfl, rfl, rfl⟩ := trodAll_nil r2
  obtain rfl : args = #[v0, v1, v2] := by cases args; simp_all
  obtain ⟨rfl, rfl⟩ := trodVars_none hV
  have k0 := h0
  have lt0 : ∀ x ∈ p0, x.block < W.heap.size := by obtain ⟨m, hm⟩ := k0; exact DataW.trod_lt m _ _ _ hm
  have k1 := h1
  have lt1 : ∀ x ∈ p1, x.block < W.heap.size := by obtain ⟨m, hm⟩ := k1; exact DataW.trod_lt m _ _ _ hm
  have k2 := h2
  have lt2 : ∀ x ∈ p2, x.block < W.heap.size := by obtain ⟨m, hm⟩ := k2; exact DataW.trod_lt m _ _ _ hm
  obtain ⟨W0, H0, a0, l0, c0, rfl, fv0⟩ := open_field (hval 0 26 v0 rfl rfl) h0
  obtain ⟨fx1, fy1, tx1, ty1, bu1, rfl, ie1⟩ := open_ends10 (hval 1 58 v1 rfl rfl) h1
  obtain ⟨ma2, mb2, rfl, im2⟩ := open_more10 (hval 2 72 v2 rfl rfl) h2
  clear hA0 hval0
  refine (starMore_any W0 H0 a0 l0 c0 fx1 fy1 tx1 ty1 bu1 ma2 mb2 fv0.2.2.2.1 fv0.2.2.2.2 im2.1).mono fun e W' ⟨he, bel⟩ => ?_
  subst he
  exact ⟨_, rfl, _, _, _, [], _, [], hW', trodAll_mk1 (shut_bool Try.underlying4 _), (trodAll_cons_mk (Below.trod laidOut (by kernel_rfl) (of_decide_eq_true (by kernel_rfl)) k0 bel lt0) (trodAll_cons_mk (Below.trod laidOut (by kernel_rfl) (of_decide_eq_true (by kernel_rfl)) k1 bel lt1) (trodAll_cons_mk (Below.trod laidOut (by kernel_rfl) (of_decide_eq_true (by kernel_rfl)) k2 bel lt2) trodAll_mk0))), rfl, Below.frame bel _, fun h => by cases h⟩

theorem starMore_holds : Rows.StarMoreSaid :=
  OpenClaim.holds_of_wide 8 Try.f8 rfl rfl rfl rfl rfl rfl rfl ⟨rfl, rfl, rfl, rfl, rfl⟩ rfl rfl rfl rfl rfl (by kernel_rfl) Try.func8 (by kernel_rfl)
    (of_decide_eq_true (by kernel_rfl)) (by unfold Func.isWrapper; first | (rw [if_pos (by decide +kernel)]; kernel_rfl) | (rw [if_neg (by decide +kernel)]; exact ⟨rfl, rfl⟩))
    (fun os started H enc _ => starMore_lifted os started H enc)
#print axioms starMore_holds
end Go.Proofs.Ytkonojjillcfiaa
