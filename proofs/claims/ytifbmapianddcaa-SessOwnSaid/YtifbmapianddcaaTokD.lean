/- Clone of a desk; Copy of the reference's. -/
import Derived.Test.YtifbmapianddcaaTokP
import Derived.Test.YtifbmapianddcaaLayM
import Derived.Shelf.SlMaps.Clone
import Derived.Deep.CutBlock
set_option linter.all false
set_option linter.unusedVariables false
set_option linter.unusedSimpArgs false
namespace Go.Proofs.Ytifbmapianddcaa
open Go.RowKit

/-- append of a row, as a step of a region that draws. -/
theorem step_app_allU {α : Type} (E : Enc α) {P : Program} {t e : TypeId} {z : Value} {bytes : Nat} (T : ElemT P t e z E.size bytes) {ops : Array Oper} {o : Oper} {a : Act} {K : Act → World → Prop} {Q : Exit → Act → World → Prop} {F : Prop}
    (hgd : o.guard = none) (s x : Operand) (ho : o.op = .call { callee := .builtin .append, args := #[s, x], argTypes := #[t, t] })
    (base : Nat) {w : World} (v : Value) (l1 l2 : List α) (hs : a.eval s = v) (hown : Own E w base e v l1)
    (b off c : Nat) (hx : a.eval x = .slice (some ⟨b, off, none⟩) l2.length c) (hc : Reads E w (.slice (some ⟨b, off, none⟩) l2.length c) l2)
    (hlen : (l1.length + l2.length) * bytes ≤ 140737488355328) (hl : l1.length + l2.length ≤ 1000000000) (h1 : 0 < l1.length + l2.length) (hbase : base ≤ w.heap.size)
    (h : ∀ g c' w', Own E w' base e (.slice (some ⟨g, 0, none⟩) (l1 ++ l2).length c') (l1 ++ l2) → Touch (fun k => v.ownBlock = some k) w w' → K (a.put o.dst (.slice (some ⟨g, 0, none⟩) (l1 ++ l2).length c')) w') :
    if Region.wanted o (yielded ops a.tmps) = true then Oper.wp P o a w K Q else F := by
  have hw : Region.wanted o (yielded ops a.tmps) = true := by simp [Region.wanted, hgd]
  rw [if_pos hw]
  obtain ⟨i0, hi, hz0, hz1, hz2⟩ := info_parts T.info
  have hcells : ∀ (j : Nat) (u : Value), (l2.flatMap E.cells)[j]? = some u → w.cell? ((⟨b, off, none⟩ : Addr).add j) = some u := by
    intro j u hu
    have hadd : (⟨b, off, none⟩ : Addr).add j = ⟨b, off + j, none⟩ := by unfold Addr.add; split <;> simp_all
    rw [hadd]
    have hpos : 0 < E.size := T.pos
    have hjl : j < l2.length * E.size := by
      have := (List.getElem?_eq_some_iff.1 hu).1
      rw [E.flat_len] at this
      exact this
    have hk : j / E.size < l2.length := Nat.div_lt_of_lt_mul (by rw [Nat.mul_comm]; exact hjl)
    have hm : j % E.size < E.size := Nat.mod_lt _ hpos
    have hj : j / E.size * E.size + j % E.size = j := by rw [Nat.mul_comm]; exact Nat.div_add_mod j E.size
    have hy : l2[j / E.size]? = some l2[j / E.size] := List.getElem?_eq_getElem hk
    obtain ⟨u', hu'⟩ : ∃ u', (E.cells (l2[j / E.size]'hk))[j % E.size]? = some u' := ⟨_, List.getElem?_eq_getElem (Nat.lt_of_lt_of_eq hm (E.len _).symm)⟩
    have h2 := flat_at E l2 _ _ hy _ _ hu'
    rw [hj, hu] at h2
    injection h2 with h2
    have := hc.cells.2.2 _ _ hy _ _ hu'
    rw [hj] at this
    rw [h2]
    exact this
  obtain ⟨v', w', hr, h2, h3, _, _⟩ := run_append_own_at (P := P) w base t o.type e i0 z E.size bytes T.under hi hz0 hz1 hz2 T.zs T.pos v l1.length (l1.flatMap E.cells) hown ⟨b, off, none⟩ l2.length c (l2.flatMap E.cells) (E.flat_len l2) hcells (E.flat_one l2) (by unfold maxLen; omega) hlen hbase
  obtain ⟨g, cap, rfl, _, _⟩ := h2.form (by omega)
  unfold Oper.wp execOp
  simp only [ho, resolve, invoke, builtin, Sem.run_bind, Sem.run_pure, Result.andThen_ok, List.map_toArray, List.map_cons, List.map_nil, hs, hx, hr]
  have := h g cap w' (by unfold Own; rw [List.length_append, List.flatMap_append]; exact h2) ((Touch.refl _ w).grown h3 (fun k hk => .inl hk))
  rw [List.length_append] at this
  exact this

theorem wpList_app_noneU {α : Type} (E : Enc α) {P : Program} {t e : TypeId} {z : Value} {bytes : Nat} (T : ElemT P t e z E.size bytes) {ops : Array Oper} {rest : List Oper} {o : Oper} {a : Act} {Q : Exit → Act → World → Prop} {w : World}
    (hgd : o.guard = none) (s x : Operand) (ho : o.op = .call { callee := .builtin .append, args := #[s, x], argTypes := #[t, t] })
    (base : Nat) (v : Value) (hs : a.eval s = v) (hown : Own E w base e v []) (ad : Addr) (c : Nat) (hx : a.eval x = .slice (some ad) 0 c) (hbase : base ≤ w.heap.size)
    (h : ∀ v' w', Own E w' base e v' [] → Below base w w' → wpList P ops Q rest (a.put o.dst v') w') : wpList P ops Q (o :: rest) a w := by
  obtain ⟨i0, hi, hz0, hz1, hz2⟩ := info_parts T.info
  refine wpList_append_own _ hgd s x t ho base e i0 z E.size bytes T.under hi hz0 hz1 hz2 T.zs T.pos v 0 [] hs hown ad 0 c [] hx (by simp) (by intro j u hj; simp at hj) (by intro u hu; cases hu) (by unfold maxLen; omega) (by omega) hbase ?_
  intro v' w' hown' hg _
  exact h v' w' hown' ((Below.refl base w).grown hg hbase (fun k hk => (World.ownsRow.lt hown k hk).1))

theorem cloneMap_any {w : World} {n N : Nat} {f : Int → Option Int} (h : MapIs w n f N) :
    Calls Try.prog 95 #[.map (some n)] w fun e w' => ∃ m, e = .returned (.map (some m)) ∧ Ext w w' ∧ w.heap.size ≤ m ∧ MapIs w' m f N := by
  obtain ⟨D, hown, r⟩ := h
  refine (Go.Proofs.AnyW.maps_Clone_owns cloneM _ _ n N D w hown).mono fun e w' ⟨he, h1, h2, hb⟩ => ⟨_, he, hb, Nat.le_refl _, D, h1, r⟩

theorem cloneU_any {w : World} {v : Value} {l : List Int} (hl : l.length ≤ 1000000) (hr : Reads u64E w v l) :
    Calls Try.prog 94 #[v] w fun e w' => ∃ v', e = .returned v' ∧ Ext w w' ∧ Own u64E w' w.heap.size 38 v' l := by
  have q := fun (w : World) (a : Option Addr) (n c n' c' : Nat) => Lib.run_eql_slice_nil (P := Try.prog) w _ _ a n c n' c' Try.underlying33
  rcases hr with ⟨rfl, rfl⟩ | ⟨b, off, c, rfl, hb, hc⟩
  · go_enter Try.func94, Try.ntmps94
    go_wp2
    go_ret
    exact ⟨_, rfl, Ext.refl _, Own.nil _ _ _ _⟩
  · have hR : Reads u64E w (.slice (some ⟨b, off, none⟩) l.length c) l := .inr ⟨b, off, c, rfl, hb, hc⟩
    by_cases h0 : 0 < l.length
    · have RD := hide hR
      obtain ⟨n, hnn⟩ : ∃ n, l.length = n := ⟨_, rfl⟩
      have HN := hide hnn
      rw [hnn] at hl h0 RD ⊢
      clear hR hc hnn
      go_enter Try.func94, Try.ntmps94
      go_wp2_with (at_builtin; refine wpList_app_more u64E T_u64s rfl _ _ rfl w.heap.size _ [] l rfl (Own.lit0 u64E w _ _ _ rfl (Nat.le_refl _)) b off c (by rw [HN.out]; rfl) (Reads.cells (RD.out.ext ((Ext.refl _).alloc _))).2.2 (by rw [HN.out]; simp; omega) (by rw [HN.out]; simp; omega) (by simp) ?_; intro v9 w9 o9 b9; have O9 := hide o9; have X9 := hide (((Ext.refl w).alloc (.cells #[] 38)).of_below b9 (Nat.le_refl _)); clear o9 b9)
      rw [List.nil_append] at O9
      go_ret
      exact ⟨_, rfl, X9.out, O9.out⟩
    · have hl0 : l = [] := List.length_eq_zero_iff.1 (by omega)
      subst hl0
      clear hR hl h0 hc
      simp only [List.length_nil]
      go_enter Try.func94, Try.ntmps94
      go_wp2_with (at_builtin; refine wpList_app_noneU u64E T_u64s rfl _ _ rfl w.heap.size _ rfl (Own.lit0 u64E w _ _ _ rfl (Nat.le_refl _)) ⟨b, off, none⟩ c rfl (by simp) ?_; intro v9 w9 o9 b9; have O9 := hide o9; have X9 := hide (((Ext.refl w).alloc (.cells #[] 38)).of_below b9 (Nat.le_refl _)); clear o9 b9)
      go_ret
      exact ⟨_, rfl, X9.out, O9.out⟩

/-- What a clone is. -/
def ClonedDesk (w : World) (most : Int) (row ever now : List Int) (x : Ending) (w' : World) : Prop :=
  ∃ d v n e, x = .returned (.pointer (some ⟨d, 0, none⟩)) ∧ Ext w w' ∧ DeskAt w' d v n e most row ever now ∧ ∀ k, Foot d v n e k → w.heap.size ≤ k

theorem sClone_any {w : World} {d : Nat} {v : Value} {n e : Nat} {most : Int} {row ever now : List Int} (h : DeskAt w d v n e most row ever now) (hl : row.length ≤ 1024) :
    Calls Try.prog 52 #[.pointer (some ⟨d, 0, none⟩)] w (ClonedDesk w most row ever now) := by
  obtain ⟨a, c, rfl⟩ := h.own.slice
  have HR := hide h.own.reads
  have H := hide h
  have d0 : w.cell? ⟨d, 0, none⟩ = some (.int .i64 most) := h.blk.cell 0
  have d1 : w.cell? ⟨d, 1, none⟩ = some (.slice a row.length c) := h.blk.cell 1
  have d2 : w.cell? ⟨d, 2, none⟩ = some (.map (some n)) := h.blk.cell 2
  have d3 : w.cell? ⟨d, 3, none⟩ = some (.map (some e)) := h.blk.cell 3
  have zd : d < w.heap.size := h.blk.lt
  clear h
  go_enter Try.func52, Try.ntmps52
  go_wp2_with fail
  refine seqH_start (S := (fun W => (∀ b o, b < w.heap.size → W.cell? ⟨b, o, none⟩ = w.cell? ⟨b, o, none⟩) ∧ Ext w W)) [(0, true), (1, true), (2, true), (3, true), (4, true), (5, true), (6, true), (7, true), (9, true), (10, true), (11, true), (12, true), (14, true), (15, true), (16, true), (17, true), (8, false), (13, false), (18, false), (19, true), (20, false), (21, true)] (by kernel_rfl) (by kernel_rfl) (by kernel_rfl) (by decide) (fun _ _ d _ _ h => by cases d <;> exact h) (by first | with_reducible exact pr_start _ | exact pr_of (by (with_reducible (repeat' (first | exact Ext.refl _ | assumption | refine Ext.drew ?_ | refine Ext.drewN ?_ _ | refine Ext.alloc ?_ _ | refine Ext.setCell ?_ ?_ _ | refine Ext.trans ?_ (by assumption)))); all_goals (first | (simp; done) | (simp; omega)))) (fun hHeld => ?_)
  iterate 16 (apply SeqH.free; (· (simp only [List.getElem?_toArray, List.getElem?_cons_succ, List.getElem?_cons_zero]; rfl)); (· first | exact Or.inr ⟨by rfl, rfl⟩ | (refine Or.inl ⟨by rfl, ?_⟩; intro w hSw; (try dsimp only at hSw); go_simp; try with_reducible rfl)); try simp only [Act.put, List.setIfInBounds_toArray, List.set_cons_zero, List.set_cons_succ])
  (apply SeqH.step; (· (simp only [List.getElem?_toArray, List.getElem?_cons_succ, List.getElem?_cons_zero]; rfl)); intro K hK; go_simp; refine (cloneU_any (Nat.le_trans hl (by decide)) (HR.out.ext (by (with_reducible (repeat' (first | exact Ext.refl _ | assumption | refine Ext.drew ?_ | refine Ext.drewN ?_ _ | refine Ext.alloc ?_ _ | refine Ext.setCell ?_ ?_ _ | refine Ext.trans ?_ (by assumption)))); all_goals (first | (simp; done) | (simp; omega))))).mono ?_; rintro e1 w1 ⟨v1, rfl, x1, o1⟩; obtain ⟨a1, c1, rfl⟩ := o1.slice; have X1 := hide x1; have O1 := hide o1; clear o1; go_wp2_with fail; refine hK.out _ _ (pr_of (by (with_reducible (repeat' (first | exact Ext.refl _ | assumption | refine Ext.drew ?_ | refine Ext.drewN ?_ _ | refine Ext.alloc ?_ _ | refine Ext.setCell ?_ ?_ _ | refine Ext.trans ?_ (by assumption)))); all_goals (first | (simp; done) | (simp; omega)))) (fun hHeld => ?_); clear hK K; try simp only [Act.put, List.setIfInBounds_toArray, List.set_cons_zero, List.set_cons_succ])
  (apply SeqH.step; (· (simp only [List.getElem?_toArray, List.getElem?_cons_succ, List.getElem?_cons_zero]; rfl)); intro K hK; go_simp; refine (cloneMap_any (H.out.mnow.ext (by (with_reducible (repeat' (first | exact Ext.refl _ | assumption | refine Ext.drew ?_ | refine Ext.drewN ?_ _ | refine Ext.alloc ?_ _ | refine Ext.setCell ?_ ?_ _ | refine Ext.trans ?_ (by assumption)))); all_goals (first | (simp; done) | (simp; omega))))).mono ?_; rintro e2 w2 ⟨m2, rfl, x2, l2, M2⟩; have X2 := hide x2; have L2 := hide (And.intro l2 M2); clear l2 M2; go_wp2_with fail; refine hK.out _ _ (pr_of (by (with_reducible (repeat' (first | exact Ext.refl _ | assumption | refine Ext.drew ?_ | refine Ext.drewN ?_ _ | refine Ext.alloc ?_ _ | refine Ext.setCell ?_ ?_ _ | refine Ext.trans ?_ (by assumption)))); all_goals (first | (simp; done) | (simp; omega)))) (fun hHeld => ?_); clear hK K; try simp only [Act.put, List.setIfInBounds_toArray, List.set_cons_zero, List.set_cons_succ])
  (apply SeqH.step; (· (simp only [List.getElem?_toArray, List.getElem?_cons_succ, List.getElem?_cons_zero]; rfl)); intro K hK; go_simp; refine (cloneMap_any (H.out.mever.ext (by (with_reducible (repeat' (first | exact Ext.refl _ | assumption | refine Ext.drew ?_ | refine Ext.drewN ?_ _ | refine Ext.alloc ?_ _ | refine Ext.setCell ?_ ?_ _ | refine Ext.trans ?_ (by assumption)))); all_goals (first | (simp; done) | (simp; omega))))).mono ?_; rintro e3 w3 ⟨m3, rfl, x3, l3, M3⟩; have X3 := hide x3; have L3 := hide (And.intro l3 M3); clear l3 M3; go_wp2_with fail; refine hK.out _ _ (pr_of (by (with_reducible (repeat' (first | exact Ext.refl _ | assumption | refine Ext.drew ?_ | refine Ext.drewN ?_ _ | refine Ext.alloc ?_ _ | refine Ext.setCell ?_ ?_ _ | refine Ext.trans ?_ (by assumption)))); all_goals (first | (simp; done) | (simp; omega)))) (fun hHeld => ?_); clear hK K; try simp only [Act.put, List.setIfInBounds_toArray, List.set_cons_zero, List.set_cons_succ])
  iterate 1 (apply SeqH.free; (· (simp only [List.getElem?_toArray, List.getElem?_cons_succ, List.getElem?_cons_zero]; rfl)); (· first | exact Or.inr ⟨by rfl, rfl⟩ | (refine Or.inl ⟨by rfl, ?_⟩; intro w hSw; (try dsimp only at hSw); go_simp; try with_reducible rfl)); try simp only [Act.put, List.setIfInBounds_toArray, List.set_cons_zero, List.set_cons_succ])
  (apply SeqH.step; (· (simp only [List.getElem?_toArray, List.getElem?_cons_succ, List.getElem?_cons_zero]; rfl)); intro K hK; go_simp; refine hK.out _ _ (pr_of (by (with_reducible (repeat' (first | exact Ext.refl _ | assumption | refine Ext.drew ?_ | refine Ext.drewN ?_ _ | refine Ext.alloc ?_ _ | refine Ext.setCell ?_ ?_ _ | refine Ext.trans ?_ (by assumption)))); all_goals (first | (simp; done) | (simp; omega)))) (fun hHeld => ?_); clear hK K; try simp only [Act.put, List.setIfInBounds_toArray, List.set_cons_zero, List.set_cons_succ])
  iterate 1 (apply SeqH.free; (· (simp only [List.getElem?_toArray, List.getElem?_cons_succ, List.getElem?_cons_zero]; rfl)); (· first | exact Or.inr ⟨by rfl, rfl⟩ | (refine Or.inl ⟨by rfl, ?_⟩; intro w hSw; (try dsimp only at hSw); go_simp; try with_reducible rfl)); try simp only [Act.put, List.setIfInBounds_toArray, List.set_cons_zero, List.set_cons_succ])
  refine SeqH.done ?_
  have X := hide hHeld.2
  have z1 := x1.size
  have z2 := x2.size
  have z3 := x3.size
  have y2 := L2.out.2.lt
  rw [World.size_drew] at z1
  have o := O1.out.lower (base' := 0) (Nat.zero_le _)
  rw [World.size_drew] at O1
  have x' : Ext w3 (w3.alloc (.cells #[.int .i64 most, .slice a1 row.length c1, .map (some m2), .map (some m3)] 149)) := (Ext.refl w3).alloc _
  have O1' := hide O1
  have D' := hide (⟨Blk.new w3 _ _, ((o.ext x2).ext x3).ext x', H.out.wf, (L2.out.2.ext x3).ext x', L3.out.2.ext x', by have := L3.out.1; omega, H.out.sound⟩ : DeskAt (w3.alloc (.cells #[.int .i64 most, .slice a1 row.length c1, .map (some m2), .map (some m3)] 149)) w3.heap.size (.slice a1 row.length c1) m2 m3 most row ever now)
  clear x1 x2 x3 x' o hHeld
  go_wp2
  go_ret
  refine ⟨w3.heap.size, .slice a1 row.length c1, m2, m3, rfl, X.out, D'.out, ?_⟩
  rintro k (hk | hk | hk | hk)
  · omega
  · have := (own_lt O1.out hk).1; omega
  · have := L2.out.1; omega
  · have := L3.out.1; omega

theorem step_app_zero {P : Program} {t e : TypeId} {z : Value} {size bytes : Nat} (T : ElemT P t e z size bytes) {ops : Array Oper} {o : Oper} {a : Act} {K : Act → World → Prop} {Q : Exit → Act → World → Prop} {F : Prop} {w : World}
    (hgd : o.guard = none) (s x : Operand) (ho : o.op = .call { callee := .builtin .append, args := #[s, x], argTypes := #[t, t] })
    (hs : a.eval s = .slice none 0 0) (ao : Option Addr) (c : Nat) (hx : a.eval x = .slice ao 0 c)
    (h : K (a.put o.dst (.slice none 0 0)) w) : if Region.wanted o (yielded ops a.tmps) = true then Oper.wp P o a w K Q else F := by
  have hw : Region.wanted o (yielded ops a.tmps) = true := by simp [Region.wanted, hgd]
  rw [if_pos hw]
  obtain ⟨i0, hi, hz0, hz1, hz2⟩ := info_parts T.info
  have hr : (Builtin.append_ #[t, t] o.type #[.slice none 0 0, .slice ao 0 c]).run P w = .ok (.slice none 0 0) w := by
    cases ao with
    | none => simp [Builtin.append_, run_underlying T.under, sizeOf, typeInfo, hi, Builtin.lenOf, Builtin.firstCells]
    | some ad =>
      have hf := run_firstCells_some (P := P) w i0.size 0 ad 0 c [] (by simp) (by intro j v hj; simp at hj)
      simp [Builtin.append_, run_underlying T.under, sizeOf, typeInfo, hi, Builtin.lenOf, hf]
  unfold Oper.wp execOp
  simp only [ho, resolve, invoke, builtin, Sem.run_bind, Sem.run_pure, Result.andThen_ok, List.map_toArray, List.map_cons, List.map_nil, hs, hx, hr]
  exact h

/-- append of a row that is read to nil. -/
theorem step_app_fresh {ops : Array Oper} {o : Oper} {a : Act} {K : Act → World → Prop} {Q : Exit → Act → World → Prop} {F : Prop} {w : World} {l : List Int} {vx : Value}
    (hgd : o.guard = none) (s x : Operand) (ho : o.op = .call { callee := .builtin .append, args := #[s, x], argTypes := #[33, 33] })
    (hs : a.eval s = .slice none 0 0) (hx : a.eval x = vx) (hr : Reads u64E w vx l) (hl : l.length ≤ 1000000)
    (h : ∀ v' w', Own u64E w' w.heap.size 38 v' l → Ext w w' → K (a.put o.dst v') w') : if Region.wanted o (yielded ops a.tmps) = true then Oper.wp Try.prog o a w K Q else F := by
  by_cases h0 : 0 < l.length
  · rcases hr with ⟨rfl, rfl⟩ | ⟨b, off, c, rfl, hb, hc⟩
    · simp at h0
    · refine step_app_allU u64E T_u64s hgd s x ho w.heap.size (.slice none 0 0) [] l hs (Own.nil _ _ _ _) b off c hx (.inr ⟨b, off, c, rfl, hb, hc⟩) (by simp; omega) (by simp; omega) (by simpa using h0) (Nat.le_refl _) ?_
      intro g c' w' o' t'
      refine h _ _ o' (Touch.ext (t'.mono (fun k _ hk => by cases hk)))
  · obtain rfl : l = [] := List.eq_nil_of_length_eq_zero (by omega)
    obtain ⟨ao, c, rfl⟩ := hr.slice
    exact step_app_zero T_u64s hgd s x ho hs ao c hx (h _ _ (Own.nil _ _ _ _) (Ext.refl _))

/-- What a copy of the reference's is. -/
def CopiedDesk (w : World) (most : Int) (row ever now : List Int) (x : Ending) (w' : World) : Prop :=
  ∃ d vr vn ve, x = .returned (.pointer (some ⟨d, 0, none⟩)) ∧ Ext w w' ∧ RefAt w' d most vr vn ve row ever now ∧ ∀ k, FootR d vr vn ve k → w.heap.size ≤ k

theorem rkCopy_any {w : World} {d : Nat} {vr vn ve : Value} {most : Int} {row ever now : List Int} (h : RefAt w d most vr vn ve row ever now) (l1 : row.length ≤ 1000000) (l2 : now.length ≤ 1000000) (l3 : ever.length ≤ 1000000) :
    Calls Try.prog 55 #[.pointer (some ⟨d, 0, none⟩)] w (CopiedDesk w most row ever now) := by
  obtain ⟨ar, cr, rfl⟩ := h.row.slice
  obtain ⟨an, cn, rfl⟩ := h.now.slice
  obtain ⟨ae, ce, rfl⟩ := h.ever.slice
  have H := hide h
  have d0 : w.cell? ⟨d, 0, none⟩ = some (.int .i64 most) := h.blk.cell 0
  have zd : d < w.heap.size := h.blk.lt
  clear h
  go_enter Try.func55, Try.ntmps55
  go_upto_region 2 with (fail)
  have R1 : Hid (RefAt (w.alloc (.cells #[.int .i64 most, .slice none 0 0, .slice none 0 0, .slice none 0 0] 85)) w.heap.size most (.slice none 0 0) (.slice none 0 0) (.slice none 0 0) [] [] []) := hide ⟨Blk.new w _ _, RowO.nil _, RowO.nil _, RowO.nil _, (fun h => by cases h), (fun h => by cases h), (fun h => by cases h), (fun k h => by cases h), (fun k h => by cases h), (fun k h => by cases h)⟩
  have X1 := hide (show Ext w (w.alloc (.cells #[.int .i64 most, .slice none 0 0, .slice none 0 0, .slice none 0 0] 85)) from (Ext.refl w).alloc _)
  obtain ⟨w1, hw1⟩ : ∃ w1, w.alloc (.cells #[.int .i64 most, .slice none 0 0, .slice none 0 0, .slice none 0 0] 85) = w1 := ⟨_, rfl⟩
  rw [hw1] at R1 X1 ⊢
  obtain ⟨g, hg⟩ : ∃ g, w.heap.size = g := ⟨_, rfl⟩
  rw [hg] at R1 ⊢
  have HG := hide hg
  have zg : g < w1.heap.size := R1.out.blk.lt
  have F1 := hide (show ∀ k, FootR g (.slice none 0 0) (.slice none 0 0) (.slice none 0 0) k → w.heap.size ≤ k from fun k hk => by rcases hk with rfl | hk | hk | hk; exact Nat.le_of_eq hg; cases hk; cases hk; cases hk)
  clear hw1 d0 hg zd
  have H1 := hide (H.out.ext X1.out)
  have S1 : Hid (CellsAt [(⟨g, 1, none⟩, .slice none 0 0), (⟨d, 1, none⟩, .slice ar row.length cr)] w1) := hide ⟨R1.out.blk.cell 1, H1.out.blk.cell 1, trivial⟩
  refine seqR_start (S := (CellsAt [(⟨g, 1, none⟩, .slice none 0 0), (⟨d, 1, none⟩, .slice ar row.length cr)])) 12 [(0, true), (1, true), (2, true), (3, true), (4, true), (5, true), (6, true), (7, true), (8, true), (9, false), (10, true), (11, true), (12, false)] (by kernel_rfl) (by kernel_rfl) (by kernel_rfl) (by decide) (fun _ _ d _ _ h => by cases d <;> exact h) (CellsAt.ext ((Ext.refl _).drew) S1.out) (fun hHeld => ?_)
  iterate 9 (apply SeqR.free; (· (simp only [List.getElem?_toArray, List.getElem?_cons_succ, List.getElem?_cons_zero]; rfl)); (· first | exact Or.inr ⟨by rfl, rfl⟩ | (refine Or.inl ⟨by rfl, ?_⟩; intro w hSw; (try dsimp only at hSw); simp only [CellsAt] at hSw; go_simp; try with_reducible rfl)); try simp only [Act.put, List.setIfInBounds_toArray, List.set_cons_zero, List.set_cons_succ])
  (apply SeqR.step; (· (simp only [List.getElem?_toArray, List.getElem?_cons_succ, List.getElem?_cons_zero]; rfl)); intro K hK; refine step_app_fresh (by rfl) _ _ (by rfl) (by rfl) (by rfl) (H1.out.row.ext (by (with_reducible (repeat' (first | exact Ext.refl _ | assumption | refine Ext.drew ?_ | refine Ext.drewN ?_ _ | refine Ext.alloc ?_ _ | refine Ext.setCell ?_ ?_ _ | refine Ext.trans ?_ (by assumption)))); all_goals (first | (simp; done) | (simp; omega)))).reads l1 ?_; intro v9 w9 o9 x9; obtain ⟨a9, c9, rfl⟩ := o9.slice; have X9 := hide (Ext.trans (show Ext w1 w1.drew from (by (with_reducible (repeat' (first | exact Ext.refl _ | assumption | refine Ext.drew ?_ | refine Ext.drewN ?_ _ | refine Ext.alloc ?_ _ | refine Ext.setCell ?_ ?_ _ | refine Ext.trans ?_ (by assumption)))); all_goals (first | (simp; done) | (simp; omega)))) x9); have O9 := hide o9; have S9 := hide (CellsAt.ext X9.out S1.out); have b1 := (R1.out.blk.ext X9.out).at 1 rfl; have f1 := (R1.out.blk.ext X9.out).frozen 1; clear o9 x9; refine hK.out _ _ (fun _ => (S9.out)) (fun hHeld => ?_); replace hHeld := hHeld (by decide); clear hK K; try simp only [Act.put, List.setIfInBounds_toArray, List.set_cons_zero, List.set_cons_succ])
  iterate 2 (apply SeqR.free; (· (simp only [List.getElem?_toArray, List.getElem?_cons_succ, List.getElem?_cons_zero]; rfl)); (· first | exact Or.inr ⟨by rfl, rfl⟩ | (refine Or.inl ⟨by rfl, ?_⟩; intro w hSw; (try dsimp only at hSw); simp only [CellsAt] at hSw; go_simp; try with_reducible rfl)); try simp only [Act.put, List.setIfInBounds_toArray, List.set_cons_zero, List.set_cons_succ])
  (apply SeqR.step; (· (simp only [List.getElem?_toArray, List.getElem?_cons_succ, List.getElem?_cons_zero]; rfl)); intro K hK; go_simp; refine hK.out _ _ (fun h => absurd rfl h) (fun hHeld => ?_); clear hK K; try simp only [Act.put, List.setIfInBounds_toArray, List.set_cons_zero, List.set_cons_succ])
  refine SeqR.done ?_
  obtain ⟨w2, hw2, R2'⟩ := R1.out.put_row' (RowO.of_own O9.out) (Touch.of_ext X9.out) (fun k hk => .inr (by have := (own_lt O9.out hk).1; rw [World.size_drew] at this; exact this))
  rw [hw2]
  have X2 := hide (show Ext w w2 from by rw [← hw2]; exact (X1.out.trans X9.out).setCell (by show w.heap.size ≤ g; rw [HG.out]; exact Nat.le_refl _) _)
  have R2 := hide R2'.out.1
  have F2 := hide (show ∀ k, FootR g _ _ _ k → w.heap.size ≤ k from fun k hk => (R2'.out.2.2 k hk).elim (F1.out k) (fun h => Nat.le_trans X1.out.size h))
  clear hw2 R2' b1 f1 S9 O9 X9 S1
  go_wp2_with fail
  have zg2 : g < w2.heap.size := R2.out.blk.lt
  have H2 := hide (H.out.ext X2.out)
  have S2 : Hid (CellsAt [(⟨g, 2, none⟩, .slice none 0 0), (⟨d, 2, none⟩, .slice an now.length cn)] w2) := hide ⟨R2.out.blk.cell 2, H2.out.blk.cell 2, trivial⟩
  refine seqR_start (S := (CellsAt [(⟨g, 2, none⟩, .slice none 0 0), (⟨d, 2, none⟩, .slice an now.length cn)])) 12 [(0, true), (1, true), (2, true), (3, true), (4, true), (5, true), (6, true), (7, true), (8, true), (9, false), (10, true), (11, true), (12, false)] (by kernel_rfl) (by kernel_rfl) (by kernel_rfl) (by decide) (fun _ _ d _ _ h => by cases d <;> exact h) (CellsAt.ext ((Ext.refl _).drew) S2.out) (fun hHeld => ?_)
  iterate 9 (apply SeqR.free; (· (simp only [List.getElem?_toArray, List.getElem?_cons_succ, List.getElem?_cons_zero]; rfl)); (· first | exact Or.inr ⟨by rfl, rfl⟩ | (refine Or.inl ⟨by rfl, ?_⟩; intro w hSw; (try dsimp only at hSw); simp only [CellsAt] at hSw; go_simp; try with_reducible rfl)); try simp only [Act.put, List.setIfInBounds_toArray, List.set_cons_zero, List.set_cons_succ])
  (apply SeqR.step; (· (simp only [List.getElem?_toArray, List.getElem?_cons_succ, List.getElem?_cons_zero]; rfl)); intro K hK; refine step_app_fresh (by rfl) _ _ (by rfl) (by rfl) (by rfl) (H2.out.now.ext (by (with_reducible (repeat' (first | exact Ext.refl _ | assumption | refine Ext.drew ?_ | refine Ext.drewN ?_ _ | refine Ext.alloc ?_ _ | refine Ext.setCell ?_ ?_ _ | refine Ext.trans ?_ (by assumption)))); all_goals (first | (simp; done) | (simp; omega)))).reads l2 ?_; intro v9 w9 o9 x9; obtain ⟨a9, c9, rfl⟩ := o9.slice; have X9 := hide (Ext.trans (show Ext w2 w2.drew from (by (with_reducible (repeat' (first | exact Ext.refl _ | assumption | refine Ext.drew ?_ | refine Ext.drewN ?_ _ | refine Ext.alloc ?_ _ | refine Ext.setCell ?_ ?_ _ | refine Ext.trans ?_ (by assumption)))); all_goals (first | (simp; done) | (simp; omega)))) x9); have O9 := hide o9; have S9 := hide (CellsAt.ext X9.out S2.out); have b1 := (R2.out.blk.ext X9.out).at 2 rfl; have f1 := (R2.out.blk.ext X9.out).frozen 2; clear o9 x9; refine hK.out _ _ (fun _ => (S9.out)) (fun hHeld => ?_); replace hHeld := hHeld (by decide); clear hK K; try simp only [Act.put, List.setIfInBounds_toArray, List.set_cons_zero, List.set_cons_succ])
  iterate 2 (apply SeqR.free; (· (simp only [List.getElem?_toArray, List.getElem?_cons_succ, List.getElem?_cons_zero]; rfl)); (· first | exact Or.inr ⟨by rfl, rfl⟩ | (refine Or.inl ⟨by rfl, ?_⟩; intro w hSw; (try dsimp only at hSw); simp only [CellsAt] at hSw; go_simp; try with_reducible rfl)); try simp only [Act.put, List.setIfInBounds_toArray, List.set_cons_zero, List.set_cons_succ])
  (apply SeqR.step; (· (simp only [List.getElem?_toArray, List.getElem?_cons_succ, List.getElem?_cons_zero]; rfl)); intro K hK; go_simp; refine hK.out _ _ (fun h => absurd rfl h) (fun hHeld => ?_); clear hK K; try simp only [Act.put, List.setIfInBounds_toArray, List.set_cons_zero, List.set_cons_succ])
  refine SeqR.done ?_
  obtain ⟨w3, hw3, R3'⟩ := R2.out.put_now' (RowO.of_own O9.out) (Touch.of_ext X9.out) (fun k hk => .inr (by have := (own_lt O9.out hk).1; rw [World.size_drew] at this; exact this))
  rw [hw3]
  have X3 := hide (show Ext w w3 from by rw [← hw3]; exact (X2.out.trans X9.out).setCell (by show w.heap.size ≤ g; rw [HG.out]; exact Nat.le_refl _) _)
  have R3 := hide R3'.out.1
  have F3 := hide (show ∀ k, FootR g _ _ _ k → w.heap.size ≤ k from fun k hk => (R3'.out.2.2 k hk).elim (F2.out k) (fun h => Nat.le_trans X2.out.size h))
  clear hw3 R3' b1 f1 S9 O9 X9 S2
  go_wp2_with fail
  have zg3 : g < w3.heap.size := R3.out.blk.lt
  have H3 := hide (H.out.ext X3.out)
  have S3 : Hid (CellsAt [(⟨g, 3, none⟩, .slice none 0 0), (⟨d, 3, none⟩, .slice ae ever.length ce)] w3) := hide ⟨R3.out.blk.cell 3, H3.out.blk.cell 3, trivial⟩
  refine seqR_start (S := (CellsAt [(⟨g, 3, none⟩, .slice none 0 0), (⟨d, 3, none⟩, .slice ae ever.length ce)])) 12 [(0, true), (1, true), (2, true), (3, true), (4, true), (5, true), (6, true), (7, true), (8, true), (9, false), (10, true), (11, true), (12, false)] (by kernel_rfl) (by kernel_rfl) (by kernel_rfl) (by decide) (fun _ _ d _ _ h => by cases d <;> exact h) (CellsAt.ext ((Ext.refl _).drew) S3.out) (fun hHeld => ?_)
  iterate 9 (apply SeqR.free; (· (simp only [List.getElem?_toArray, List.getElem?_cons_succ, List.getElem?_cons_zero]; rfl)); (· first | exact Or.inr ⟨by rfl, rfl⟩ | (refine Or.inl ⟨by rfl, ?_⟩; intro w hSw; (try dsimp only at hSw); simp only [CellsAt] at hSw; go_simp; try with_reducible rfl)); try simp only [Act.put, List.setIfInBounds_toArray, List.set_cons_zero, List.set_cons_succ])
  (apply SeqR.step; (· (simp only [List.getElem?_toArray, List.getElem?_cons_succ, List.getElem?_cons_zero]; rfl)); intro K hK; refine step_app_fresh (by rfl) _ _ (by rfl) (by rfl) (by rfl) (H3.out.ever.ext (by (with_reducible (repeat' (first | exact Ext.refl _ | assumption | refine Ext.drew ?_ | refine Ext.drewN ?_ _ | refine Ext.alloc ?_ _ | refine Ext.setCell ?_ ?_ _ | refine Ext.trans ?_ (by assumption)))); all_goals (first | (simp; done) | (simp; omega)))).reads l3 ?_; intro v9 w9 o9 x9; obtain ⟨a9, c9, rfl⟩ := o9.slice; have X9 := hide (Ext.trans (show Ext w3 w3.drew from (by (with_reducible (repeat' (first | exact Ext.refl _ | assumption | refine Ext.drew ?_ | refine Ext.drewN ?_ _ | refine Ext.alloc ?_ _ | refine Ext.setCell ?_ ?_ _ | refine Ext.trans ?_ (by assumption)))); all_goals (first | (simp; done) | (simp; omega)))) x9); have O9 := hide o9; have S9 := hide (CellsAt.ext X9.out S3.out); have b1 := (R3.out.blk.ext X9.out).at 3 rfl; have f1 := (R3.out.blk.ext X9.out).frozen 3; clear o9 x9; refine hK.out _ _ (fun _ => (S9.out)) (fun hHeld => ?_); replace hHeld := hHeld (by decide); clear hK K; try simp only [Act.put, List.setIfInBounds_toArray, List.set_cons_zero, List.set_cons_succ])
  iterate 2 (apply SeqR.free; (· (simp only [List.getElem?_toArray, List.getElem?_cons_succ, List.getElem?_cons_zero]; rfl)); (· first | exact Or.inr ⟨by rfl, rfl⟩ | (refine Or.inl ⟨by rfl, ?_⟩; intro w hSw; (try dsimp only at hSw); simp only [CellsAt] at hSw; go_simp; try with_reducible rfl)); try simp only [Act.put, List.setIfInBounds_toArray, List.set_cons_zero, List.set_cons_succ])
  (apply SeqR.step; (· (simp only [List.getElem?_toArray, List.getElem?_cons_succ, List.getElem?_cons_zero]; rfl)); intro K hK; go_simp; refine hK.out _ _ (fun h => absurd rfl h) (fun hHeld => ?_); clear hK K; try simp only [Act.put, List.setIfInBounds_toArray, List.set_cons_zero, List.set_cons_succ])
  refine SeqR.done ?_
  obtain ⟨w4, hw4, R4'⟩ := R3.out.put_ever' (RowO.of_own O9.out) (Touch.of_ext X9.out) (fun k hk => .inr (by have := (own_lt O9.out hk).1; rw [World.size_drew] at this; exact this))
  rw [hw4]
  have X4 := hide (show Ext w w4 from by rw [← hw4]; exact (X3.out.trans X9.out).setCell (by show w.heap.size ≤ g; rw [HG.out]; exact Nat.le_refl _) _)
  have R4 := hide R4'.out.1
  have F4 := hide (show ∀ k, FootR g _ _ _ k → w.heap.size ≤ k from fun k hk => (R4'.out.2.2 k hk).elim (F3.out k) (fun h => Nat.le_trans X3.out.size h))
  clear hw4 R4'
  go_wp2
  go_ret
  exact ⟨g, _, _, _, rfl, X4.out, R4.out, F4.out⟩
end Go.Proofs.Ytifbmapianddcaa
