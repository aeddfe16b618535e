/- Part of a proof: MakeX IntAt AppM StarN. -/
import Derived.Test.YtkonojjillcfiaaStarBudgetP06
import Derived.OwnWalk
import Derived.Test.YtkonojjillcfiaaStarBudgetP05
import Derived.Test.YtkonojjillcfiaaStarBudgetP11
import Derived.Test.YtkonojjillcfiaaStarBudgetP13
import Derived.Test.YtkonojjillcfiaaStarBudgetP04
set_option linter.all false
set_option linter.unusedVariables false
set_option linter.unusedSimpArgs false
/- make([]T, n) of one-cell elements, as a row of the call's own. -/
namespace Go.Proofs.Ytkonojjillcfiaa
open Go.RowKit

theorem made_one (z : Value) (hz : z.cells = #[z]) (n : Nat) : (madeCells z.cells (n * 1)).toList = List.replicate n z := by
  unfold madeCells
  rw [hz, Nat.mul_one]
  apply List.ext_getElem?
  intro i
  simp only [Array.toList_map, Array.toList_range, List.getElem?_map]
  by_cases h : i < n
  · rw [List.getElem?_range h, List.getElem?_replicate, if_pos h]
    simp [Nat.mod_one]
  · rw [List.getElem?_eq_none (by simpa using h), List.getElem?_eq_none (by simpa using h)]
    rfl

theorem wpList_make_one {α : Type} (E : Enc α) {P : Program} {t e : TypeId} {z : Value} {bytes : Nat} (T : ElemT P t e z E.size bytes) (zero : α) (h1 : E.size = 1) (hzc : z.cells = #[z]) (hE : E.cells zero = [z])
    {ops : Array Oper} {rest : List Oper} {o : Oper} {a : Act} {Q : Exit → Act → World → Prop} {w : World}
    (hg : o.guard = none) (l c : Operand) (hop : o.op = Op.makeSlice t l c) (base n : Nat) (hl : a.eval l = .int .i64 (n : Int)) (hc : a.eval c = .int .i64 (n : Int)) (hn : n ≤ 100000) (hby : bytes ≤ 1000) (b4 : base ≤ w.heap.size)
    (hK : ∀ g w', g = w.heap.size → Own E w' base e (.slice (some ⟨g, 0, none⟩) n n) (List.replicate n zero) → Ext w w' → wpList P ops Q rest (a.put o.dst (.slice (some ⟨g, 0, none⟩) n n)) w') :
    wpList P ops Q (o :: rest) a w := by
  obtain ⟨i0, hi, hz0, hz1, hz2⟩ := info_parts T.info
  have hb : bytes * n ≤ 281474976710656 := Nat.le_trans (Nat.mul_le_mul hby hn) (by decide)
  refine wpList_make_full w hg l c t hop base e i0 z E.size T.under hi hz0 hz1 .i64 .i64 _ _ n hl hc rfl rfl (by rw [hz2]; exact hb) (by unfold maxLen; omega) b4 ?_
  intro w' hown hgrow
  refine hK w.heap.size w' rfl ?_ ((Ext.refl w).grown hgrow (by simp))
  unfold Own
  rw [List.length_replicate]
  have hf : (List.replicate n zero).flatMap E.cells = (madeCells z.cells (n * E.size)).toList := by
    rw [h1, made_one z hzc n]
    clear hown hgrow hb hK hl hc hn
    induction n with
    | zero => rfl
    | succ n ih => rw [List.replicate_succ, List.flatMap_cons, hE, List.replicate_succ, ih]; rfl
  rw [hf]
  exact hown
end Go.Proofs.Ytkonojjillcfiaa

/- A row of ints of a call's own, in memory. -/
namespace Go.Proofs.Ytkonojjillcfiaa
open Go.RowKit

theorem T_ints10 : ElemT Try.prog 103 3 (.int .i64 0) 1 8 := ⟨Try.underlying103, by kernel_rfl, rfl, by decide⟩
/-- The row of ints, in memory. -/
def IntAt (w : World) (base g c : Nat) (far : Nat → Int) (n : Nat) : Prop := Own intE w base 3 (.slice (some ⟨g, 0, none⟩) n c) (farL far n)
theorem IntAt.lt {w : World} {base g c : Nat} {far : Nat → Int} {n : Nat} (h : IntAt w base g c far n) : base ≤ g ∧ g < w.heap.size := own_lt h rfl
theorem IntAt.touch {S : Nat → Prop} {w w' : World} {base g c : Nat} {far : Nat → Int} {n : Nat} (h : IntAt w base g c far n) (t : Touch S w w') (hs : ¬ S g) : IntAt w' base g c far n :=
  Own.touch h t (fun k hk => by simp only [Value.ownBlock, Option.some.injEq] at hk; subst hk; exact hs)
theorem IntAt.ext {w w' : World} {base g c : Nat} {far : Nat → Int} {n : Nat} (h : IntAt w base g c far n) (t : Ext w w') : IntAt w' base g c far n := Own.ext h t
theorem IntAt.cell {w : World} {base g c : Nat} {far : Nat → Int} {n : Nat} (h : IntAt w base g c far n) {i : Nat} (hi : i < n) : w.cell? ⟨g, i, none⟩ = some (.int .i64 (far i)) ∧ w.frozen? ⟨g, i, none⟩ = false := by
  have h' : w.ownsRow base 3 1 (.slice (some ⟨g, 0, none⟩) n c) (farL far n).length ((farL far n).flatMap intE.cells) := h
  rw [farL_len] at h'
  refine ⟨?_, h'.frozenAt _⟩
  rw [h'.cellAt i (by omega)]
  have := flat_at intE (farL far n) i (far i) (farL_get far hi) 0 (.int .i64 (far i)) rfl
  simpa [intE] using this
theorem IntAt.turn {w : World} {base g c : Nat} {far : Nat → Int} {n : Nat} (h : IntAt w base g c far n) {i : Nat} (hi : i < n) (x : Int) : IntAt (w.setCell ⟨g, i, none⟩ (.int .i64 x)) base g c (updF far i x) n := by
  have := Own.turn (E := intE) h (i := i) (by rw [farL_len]; exact hi) x
  rw [farL_set] at this
  rw [show i * intE.size = i from Nat.mul_one i] at this
  exact this
theorem IntAt.congr {w : World} {base g c n : Nat} {f f' : Nat → Int} (h : IntAt w base g c f n) (e : ∀ v, v < n → f v = f' v) : IntAt w base g c f' n := by
  unfold IntAt
  rw [← show farL f n = farL f' n from List.map_congr_left fun v hv => e v (List.mem_range.1 hv)]
  exact h
theorem int_zero (n : Nat) : List.replicate n (0 : Int) = farL (fun _ => 0) n := by
  unfold farL
  simp [List.map_const']
end Go.Proofs.Ytkonojjillcfiaa

/- append of a whole row to a row of the call's own. -/
namespace Go.Proofs.Ytkonojjillcfiaa
open Go.RowKit

theorem Own.lit1 {α : Type} (E : Enc α) (w : World) (base b : Nat) (e : TypeId) (y : α) (cs : Array Value) (hcs : cs = (E.cells y).toArray) (hb : b = w.heap.size) (hbase : base ≤ b) : Own E (w.alloc (.cells cs e)) base e (.slice (some ⟨b, 0, none⟩) 1 1) [y] := by
  subst hb
  subst hcs
  refine ⟨by simp [E.len], .inr ⟨w.heap.size, 1, (E.cells y).toArray, rfl, hbase, heap_alloc_new w _, Nat.le_refl _, ?_, ?_, ?_⟩⟩
  · unfold maxLen; omega
  · simp only [List.size_toArray, E.len, Nat.one_mul]
  · have := E.len y
    simp
    rw [List.take_of_length_le (by omega)]

theorem Reads.cells {α : Type} {E : Enc α} {w : World} {b off n c : Nat} {l : List α} (h : Reads E w (.slice (some ⟨b, off, none⟩) n c) l) : b < w.heap.size ∧ n = l.length ∧ ∀ (k : Nat) (y : α), l[k]? = some y → ∀ (j : Nat) (u : Value), (E.cells y)[j]? = some u → w.cell? ⟨b, off + (k * E.size + j), none⟩ = some u := by
  rcases h with ⟨h, _⟩ | ⟨b', off', cap', hv, hb, hc⟩
  · cases h
  · cases hv
    exact ⟨hb, rfl, hc⟩

theorem wpList_app_more {α : Type} (E : Enc α) {P : Program} {t e : TypeId} {z : Value} {bytes : Nat} (T : ElemT P t e z E.size bytes) {ops : Array Oper} {rest : List Oper} {o : Oper} {a : Act} {Q : Exit → Act → World → Prop} {w : World}
    (hgd : o.guard = none) (s x : Operand) (ho : o.op = .call { callee := .builtin .append, args := #[s, x], argTypes := #[t, t] })
    (base : Nat) (v : Value) (l1 l2 : List α) (hs : a.eval s = v) (hown : Own E w base e v l1)
    (b off c : Nat) (hx : a.eval x = .slice (some ⟨b, off, none⟩) l2.length c) (hc : ∀ (k : Nat) (y : α), l2[k]? = some y → ∀ (j : Nat) (u : Value), (E.cells y)[j]? = some u → w.cell? ⟨b, off + (k * E.size + j), none⟩ = some u)
    (hlen : (l1.length + l2.length) * bytes ≤ 140737488355328) (hl : l1.length + l2.length ≤ 1000000000) (hbase : base ≤ w.heap.size)
    (h : ∀ v' w', Own E w' base e v' (l1 ++ l2) → Below base w w' → wpList P ops Q rest (a.put o.dst v') w') : wpList P ops Q (o :: rest) a w := by
  obtain ⟨i0, hi, hz0, hz1, hz2⟩ := info_parts T.info
  have hcells : ∀ (j : Nat) (u : Value), (l2.flatMap E.cells)[j]? = some u → w.cell? ((⟨b, off, none⟩ : Addr).add j) = some u := by
    intro j u hu
    have hadd : (⟨b, off, none⟩ : Addr).add j = ⟨b, off + j, none⟩ := by unfold Addr.add; split <;> simp_all
    rw [hadd]
    have hpos : 0 < E.size := T.pos
    have hjl : j < l2.length * E.size := by
      have := (List.getElem?_eq_some_iff.1 hu).1
      rw [E.flat_len] at this
      exact this
    have hk : j / E.size < l2.length := Nat.div_lt_of_lt_mul (by rw [Nat.mul_comm]; exact hjl)
    have hm : j % E.size < E.size := Nat.mod_lt _ hpos
    have hj : j / E.size * E.size + j % E.size = j := by rw [Nat.mul_comm]; exact Nat.div_add_mod j E.size
    have hy : l2[j / E.size]? = some l2[j / E.size] := List.getElem?_eq_getElem hk
    obtain ⟨u', hu'⟩ : ∃ u', (E.cells (l2[j / E.size]'hk))[j % E.size]? = some u' := ⟨_, List.getElem?_eq_getElem (Nat.lt_of_lt_of_eq hm (E.len _).symm)⟩
    have h2 := flat_at E l2 _ _ hy _ _ hu'
    rw [hj, hu] at h2
    injection h2 with h2
    have := hc _ _ hy _ _ hu'
    rw [hj] at this
    rw [h2]
    exact this
  refine wpList_append_own _ hgd s x t ho base e i0 z E.size bytes T.under hi hz0 hz1 hz2 T.zs T.pos v l1.length (l1.flatMap E.cells) hs hown ⟨b, off, none⟩ l2.length c (l2.flatMap E.cells) hx (E.flat_len l2) hcells (E.flat_one l2) (by unfold maxLen; omega) hlen hbase ?_
  intro v' w' hown' hg _
  have hown'' : Own E w' base e v' (l1 ++ l2) := by
    unfold Own
    rw [List.length_append, List.flatMap_append]
    exact hown'
  refine h v' w' hown'' ?_
  refine (Below.refl base w).grown hg hbase ?_
  intro k hk
  exact (World.ownsRow.lt hown k hk).1
end Go.Proofs.Ytkonojjillcfiaa

/- What the walk of the reference's Find needs: its three rows in memory, and append of a row behind one element of its own. -/
namespace Go.Proofs.Ytkonojjillcfiaa
open Go.RowKit

theorem FarAt.congr10 {w : World} {base g c n : Nat} {f f' : Nat → Int} (h : FarAt w base g c f n) (e : ∀ v, v < n → f v = f' v) : FarAt w base g c f' n := by
  unfold FarAt
  rw [← show farL f n = farL f' n from List.map_congr_left fun v hv => e v (List.mem_range.1 hv)]
  exact h

theorem touch_at (w : World) (g i : Nat) (u : Value) : Touch (fun k => k = g) w (w.setCell ⟨g, i, none⟩ u) := (Touch.refl (fun k => k = g) w).setCell (p := ⟨g, i, none⟩) (.inl rfl) u

/-- The three rows of the reference's search. -/
structure Rows3 (w : World) (base gs gg gc n : Nat) (A : AS) : Prop where
  st : IntAt w base gs n (fun v => (A.st v : Int)) n
  g : FarAt w base gg n A.g n
  came : IntAt w base gc n A.came n
  ne : gs ≠ gg ∧ gs ≠ gc ∧ gg ≠ gc

section
variable {w w' : World} {base gs gg gc n : Nat} {A : AS}
theorem Rows3.ext (h : Rows3 w base gs gg gc n A) (t : Ext w w') : Rows3 w' base gs gg gc n A := ⟨h.st.ext t, h.g.ext t, h.came.ext t, h.ne⟩
theorem Rows3.touch (h : Rows3 w base gs gg gc n A) {S : Nat → Prop} (t : Touch S w w') (h1 : ¬ S gs) (h2 : ¬ S gg) (h3 : ¬ S gc) : Rows3 w' base gs gg gc n A := ⟨h.st.touch t h1, h.g.touch t h2, h.came.touch t h3, h.ne⟩
theorem Rows3.settle (h : Rows3 w base gs gg gc n A) {v : Nat} (hv : v < n) : Rows3 (w.setCell ⟨gs, v, none⟩ (.int .i64 2)) base gs gg gc n (A.settle v) where
  st := (h.st.turn hv 2).congr fun u _ => by
    show updF _ v 2 u = ((updN A.st v 2 u : Nat) : Int)
    unfold updF updN
    split <;> rfl
  g := h.g.touch (S := fun k => k = gs) (touch_at _ gs v _) (fun e => h.ne.1 e.symm)
  came := h.came.touch (S := fun k => k = gs) (touch_at _ gs v _) (fun e => h.ne.2.1 e.symm)
  ne := h.ne
theorem Rows3.put (h : Rows3 w base gs gg gc n A) {m : Nat} (hm : m < n) (x c : Int) : Rows3 (((w.setCell ⟨gs, m, none⟩ (.int .i64 1)).setCell ⟨gg, m, none⟩ (.int .u64 x)).setCell ⟨gc, m, none⟩ (.int .i64 c)) base gs gg gc n (A.put m x c) where
  st := by
    refine IntAt.touch (S := fun k => k = gc) (IntAt.touch (S := fun k => k = gg) (w := w.setCell ⟨gs, m, none⟩ (.int .i64 1)) ((h.st.turn hm 1).congr fun u _ => ?_) (touch_at _ gg m _) h.ne.1) (touch_at _ gc m _) h.ne.2.1
    show updF _ m 1 u = ((updN A.st m 1 u : Nat) : Int)
    unfold updF updN
    split <;> rfl
  g := by
    refine FarAt.touch (S := fun k => k = gc) (((FarAt.touch (S := fun k => k = gs) h.g (touch_at _ gs m _) (fun e => h.ne.1 e.symm)).turn hm x).congr10 fun u _ => ?_) (touch_at _ gc m _) h.ne.2.2
    rfl
  came := by
    refine ((IntAt.touch (S := fun k => k = gg) (IntAt.touch (S := fun k => k = gs) h.came (touch_at _ gs m _) (fun e => h.ne.2.1 e.symm)) (touch_at _ gg m _) (fun e => h.ne.2.2 e.symm)).turn hm c).congr fun u _ => ?_
    rfl
  ne := h.ne
theorem Rows3.lt (h : Rows3 w base gs gg gc n A) : (base ≤ gs ∧ gs < w.heap.size) ∧ (base ≤ gg ∧ gg < w.heap.size) ∧ (base ≤ gc ∧ gc < w.heap.size) := ⟨h.st.lt, h.g.lt, h.came.lt⟩
theorem Rows3.start {s : Nat} (hs : s < n) (h1 : IntAt w base gs n (fun _ => 0) n) (h2 : FarAt w base gg n (fun _ => 0) n) (h3 : IntAt w base gc n (fun _ => 0) n) (ne : gs ≠ gg ∧ gs ≠ gc ∧ gg ≠ gc) : Rows3 ((w.setCell ⟨gs, s, none⟩ (.int .i64 1)).setCell ⟨gc, s, none⟩ (.int .i64 (-1))) base gs gg gc n (start0 s) where
  st := by
    refine IntAt.touch (S := fun k => k = gc) ((h1.turn hs 1).congr fun u _ => ?_) (touch_at _ gc s _) ne.2.1
    show updF _ s 1 u = ((updN (fun _ => 0) s 1 u : Nat) : Int)
    unfold updF updN
    split <;> rfl
  g := (h2.touch (S := fun k => k = gs) (touch_at _ gs s _) (fun e => ne.1 e.symm)).touch (S := fun k => k = gc) (touch_at _ gc s _) ne.2.2
  came := by
    refine ((IntAt.touch (S := fun k => k = gs) h3 (touch_at _ gs s _) (fun e => ne.2.1 e.symm)).turn hs (-1)).congr fun u _ => ?_
    rfl
  ne := ne
end

def bestI : Option Nat → Int
  | none => -1
  | some j => (j : Int)

theorem step_dir10 {k : Nat} (hk : k < 4) (x y : Int) : stepX x (k : Int) = x + dirX k ∧ stepY y (k : Int) = y + dirY k := by
  obtain rfl | rfl | rfl | rfl : k = 0 ∨ k = 1 ∨ k = 2 ∨ k = 3 := by omega
  all_goals (constructor <;> simp [stepX, stepY, dirX, dirY] <;> omega)

/-- append of a row, as a step of a region that draws. -/
theorem step_app_more {α : Type} (E : Enc α) {P : Program} {t e : TypeId} {z : Value} {bytes : Nat} (T : ElemT P t e z E.size bytes) {ops : Array Oper} {o : Oper} {a : Act} {K : Act → World → Prop} {Q : Exit → Act → World → Prop} {F : Prop}
    (hgd : o.guard = none) (s x : Operand) (ho : o.op = .call { callee := .builtin .append, args := #[s, x], argTypes := #[t, t] })
    (base : Nat) {w : World} (v : Value) (l1 l2 : List α) (hs : a.eval s = v) (hown : Own E w base e v l1)
    (b off c : Nat) (hx : a.eval x = .slice (some ⟨b, off, none⟩) l2.length c) (hc : Reads E w (.slice (some ⟨b, off, none⟩) l2.length c) l2)
    (hlen : (l1.length + l2.length) * bytes ≤ 140737488355328) (hl : l1.length + l2.length ≤ 1000000000) (h1 : 0 < l1.length) (hbase : base ≤ w.heap.size)
    (h : ∀ g c' w', Own E w' base e (.slice (some ⟨g, 0, none⟩) (l1 ++ l2).length c') (l1 ++ l2) → Touch (fun k => v.ownBlock = some k) w w' → K (a.put o.dst (.slice (some ⟨g, 0, none⟩) (l1 ++ l2).length c')) w') :
    if Region.wanted o (yielded ops a.tmps) = true then Oper.wp P o a w K Q else F := by
  have hw : Region.wanted o (yielded ops a.tmps) = true := by simp [Region.wanted, hgd]
  rw [if_pos hw]
  obtain ⟨i0, hi, hz0, hz1, hz2⟩ := info_parts T.info
  have hcells : ∀ (j : Nat) (u : Value), (l2.flatMap E.cells)[j]? = some u → w.cell? ((⟨b, off, none⟩ : Addr).add j) = some u := by
    intro j u hu
    have hadd : (⟨b, off, none⟩ : Addr).add j = ⟨b, off + j, none⟩ := by unfold Addr.add; split <;> simp_all
    rw [hadd]
    have hpos : 0 < E.size := T.pos
    have hjl : j < l2.length * E.size := by
      have := (List.getElem?_eq_some_iff.1 hu).1
      rw [E.flat_len] at this
      exact this
    have hk : j / E.size < l2.length := Nat.div_lt_of_lt_mul (by rw [Nat.mul_comm]; exact hjl)
    have hm : j % E.size < E.size := Nat.mod_lt _ hpos
    have hj : j / E.size * E.size + j % E.size = j := by rw [Nat.mul_comm]; exact Nat.div_add_mod j E.size
    have hy : l2[j / E.size]? = some l2[j / E.size] := List.getElem?_eq_getElem hk
    obtain ⟨u', hu'⟩ : ∃ u', (E.cells (l2[j / E.size]'hk))[j % E.size]? = some u' := ⟨_, List.getElem?_eq_getElem (Nat.lt_of_lt_of_eq hm (E.len _).symm)⟩
    have h2 := flat_at E l2 _ _ hy _ _ hu'
    rw [hj, hu] at h2
    injection h2 with h2
    have := hc.cells.2.2 _ _ hy _ _ hu'
    rw [hj] at this
    rw [h2]
    exact this
  obtain ⟨v', w', hr, h2, h3, _, _⟩ := run_append_own_at (P := P) w base t o.type e i0 z E.size bytes T.under hi hz0 hz1 hz2 T.zs T.pos v l1.length (l1.flatMap E.cells) hown ⟨b, off, none⟩ l2.length c (l2.flatMap E.cells) (E.flat_len l2) hcells (E.flat_one l2) (by unfold maxLen; omega) hlen hbase
  obtain ⟨g, cap, rfl, _, _⟩ := h2.form (by omega)
  unfold Oper.wp execOp
  simp only [ho, resolve, invoke, builtin, Sem.run_bind, Sem.run_pure, Result.andThen_ok, List.map_toArray, List.map_cons, List.map_nil, hs, hx, hr]
  have := h g cap w' (by unfold Own; rw [List.length_append, List.flatMap_append]; exact h2) ((Touch.refl _ w).grown h3 (fun k hk => .inl hk))
  rw [List.length_append] at this
  exact this
end Go.Proofs.Ytkonojjillcfiaa
