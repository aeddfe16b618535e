/- Walks of layer 13: what is told of each cell. -/
import Derived.Test.YtkioohhjjdlhiaaGreatRowC
import Derived.Test.YtkioohhjjdlhiaaGreatRepeat
import Derived.Test.YtkioohhjjdlhiaaGreatLib
import Derived.OwnWalk
import Derived.Laws.EntriesVeiled
set_option linter.all false
set_option linter.unusedVariables false
set_option linter.unusedSimpArgs false
namespace Go.Proofs.YtkioohhjjdlhiaaGreat
open Go.RowKit

/-- make of a row without elements, and with room. -/
theorem wpList_make_zero {α : Type} (E : Enc α) {P : Program} {t e : TypeId} {z : Value} {bytes : Nat} (T : ElemT P t e z E.size bytes)
  {ops : Array Oper} {rest : List Oper} {o : Oper} {a : Act} {Q : Exit → Act → World → Prop} {w : World}
  (hg : o.guard = none) (l c : Operand) (hop : o.op = Op.makeSlice t l c) (base n : Nat) (hl : a.eval l = .int .i64 0) (hc : a.eval c = .int .i64 (n : Int)) (hn : n ≤ 1000000) (hby : bytes ≤ 1000) (b4 : base ≤ w.heap.size)
  (hK : ∀ g w', Own E w' base e (.slice (some ⟨g, 0, none⟩) 0 n) [] → Ext w w' → wpList P ops Q rest (a.put o.dst (.slice (some ⟨g, 0, none⟩) 0 n)) w') :
  wpList P ops Q (o :: rest) a w := by
 obtain ⟨i0, hi, hz0, hz1, hz2⟩ := info_parts T.info
 have hb : bytes * n ≤ 281474976710656 := Nat.le_trans (Nat.mul_le_mul hby hn) (by decide)
 refine wpList_make_own w hg l c t hop base e i0 z E.size T.under hi hz0 hz1 .i64 .i64 _ n hl hc rfl (by rw [hz2]; exact hb) (by unfold maxLen; omega) b4 ?_
 intro w' hown hgrow
 exact hK w.heap.size w' hown ((Ext.refl w).grown hgrow (by simp))

theorem take_map {β : Type} (l : List Cell) (g : Cell → β) {k : Nat} {q : Cell} (h : l[k]? = some q) : (l.take (k + 1)).map g = (l.take k).map g ++ [g q] := by
 rw [List.take_add_one, h, List.map_append]
 rfl

set_option maxRecDepth 100000 in
set_option maxHeartbeats 400000 in
theorem eachU64_any {w : World} {a : Option Addr} {l : List Cell} (c : Nat) {f : Nat} {caps : Array Value} {g : Cell → Int} (hl : l.length ≤ 1000000) (hr : RowC w a l)
  (hf : ∀ w', Ext w w' → ∀ q, q ∈ l → Calls Tryz.prog f (#[.agg #[.int .i64 q.1, .int .i64 q.2]] ++ caps) w' fun e w2 => e = .returned (.int .u64 (g q)) ∧ Ext w' w2)
  (eg : ∀ args w, (callFunc f args).run Tryz.prog w = .ok (.enter f args) w) :
  Calls Tryz.prog 206 #[.slice a l.length c, .func (.func f) #[] caps] w fun e w' => ∃ v, e = .returned v ∧ Ext w w' ∧ Own u64E w' w.heap.size 87 v (l.map g) := by
 have HF := hide hf
 have HR := hide hr
 obtain ⟨n, hnn⟩ : ∃ n, l.length = n := ⟨_, rfl⟩
 have HN := hide hnn
 rw [hnn] at hl ⊢
 clear hf hr hnn
 go_enter Tryz.func206, Tryz.ntmps206
 go_wp2_with (at_make; refine wpList_make_zero u64E T_u64s rfl _ _ rfl w.heap.size n rfl rfl (by omega) (by decide) (Nat.le_refl _) ?_)
 intro g0 w1 ho1 hx1
 have O1 := hide ho1
 have X1 := hide hx1
 clear ho1 hx1
 go_wp2_with fail
 go_loopw [5, 13] (fun ov iv wr => ∃ k : Nat, k ≤ n ∧ iv = .int .i64 k ∧ Own u64E wr w.heap.size 87 ov ((l.take k).map g) ∧ Ext w wr) (fun _ iv _ => n - (intOf iv).toNat)
 case atStart => exact ⟨0, Nat.zero_le _, rfl, O1.out, X1.out⟩
 case round =>
  obtain ⟨k, hk, rfl, ho, hx⟩ := hrel
  have O := hide ho
  have X := hide hx
  have hz := hx.size
  clear ho hx O1 X1
  by_cases hlt : k < n
  ·obtain ⟨q, hq⟩ : ∃ q, l[k]? = some q := ⟨_, List.getElem?_eq_getElem (by rw [HN.out]; exact hlt)⟩
   obtain ⟨b, off, rfl, hb, hc⟩ := HR.out (by rw [HN.out]; omega)
   obtain ⟨hkl, hql⟩ := List.getElem?_eq_some_iff.1 hq
   have h1 := hc k hkl
   rw [hql] at h1
   have d0 := (X.out.cell (p := ⟨b, off + k * 2, none⟩) hb).trans h1.1
   have d1 := (X.out.cell (p := ⟨b, off + k * 2 + 1, none⟩) hb).trans h1.2
   have hbw : b < wr.heap.size := by omega
   have HQ := hide (fun w' (hx : Ext wr w') => HF.out w' (X.out.trans hx) q (List.mem_of_getElem? hq))
   have HT := hide (take_map l g hq)
   have hll : ((l.take k).map g).length = k := by rw [List.length_map, List.length_take]; omega
   have HLL := hide hll
   have jk : (k : Int) < (n : Int) := by omega
   clear hq hc hkl hql h1 hll
   go_wp2_with fail
   refine (HQ.out _ (by (with_reducible (repeat' (first | exact z_r _ | assumption | refine z_d ?_ | refine z_n ?_ _ | refine z_a ?_ _ | refine z_s ?_ ?_ _ | refine z_t ?_ (by assumption)))); all_goals (simp <;> omega))).mono ?_
   rintro e w2 ⟨rfl, hb2⟩
   have hx2 : Ext wr w2 := (by (with_reducible (repeat' (first | exact z_r _ | assumption | refine z_d ?_ | refine z_n ?_ _ | refine z_a ?_ _ | refine z_s ?_ ?_ _ | refine z_t ?_ (by assumption)))); all_goals (simp <;> omega))
   have O2 := hide (O.out.ext hx2)
   have X2 := hide (X.out.trans hx2)
   have hz2 := hx2.size
   clear hb2 hx2
   go_wp2_with (at_builtin; refine wpList_app u64E T_u64s rfl _ _ rfl w.heap.size _ _ ((l.take k).map g) rfl O2.out (g q) _ _ rfl _ rfl rfl (by rw [HLL.out]; omega) (by rw [HLL.out]; omega) (by omega) ?_; intro g9 c9 w9 hown9 hb9; have O9 := hide hown9; have X9 := hide (X2.out.of_below hb9 (Nat.le_refl _)); clear hown9 hb9)
   go_roundw
   case rel => exact ⟨k + 1, hlt, by go_num, by rw [HT.out, show min k l.length = k by rw [HN.out]; omega]; have h := O9.out; rw [HLL.out] at h; exact h, X9.out⟩
   case measure => simp [intOf]; omega
  ·obtain rfl : k = n := by omega
   go_wp2_with fail
   go_ret
   exact ⟨_, rfl, X.out, by have h := O.out; rw [List.take_of_length_le (by rw [HN.out]; exact Nat.le_refl _)] at h; exact h⟩

theorem own_u64 {w : World} {base : Nat} {v : Value} {l : List Int} (h : Own u64E w base 87 v l) (hl : 0 < l.length) : ∃ g c, v = .slice (some ⟨g, 0, none⟩) l.length c := by
 rcases h.2 with ⟨_, h0⟩ | ⟨g, cap, cur, hv, _⟩
 ·omega
 ·exact ⟨g, cap, hv⟩
/-- A slice, as an element. -/
def sliceE : Enc (Option Addr × Nat × Nat) := ⟨1, fun s => [.slice s.1 s.2.1 s.2.2], fun _ => rfl, fun _ u hu => by simp at hu; subst hu; rfl⟩
theorem T_rows : ElemT Tryz.prog 72 86 (.slice none 0 0) 1 24 := ⟨Tryz.underlying72, by kernel_rfl, rfl, by decide⟩
/-- Rows of costs of one's own. -/
def RowsAt (w : World) (base : Nat) (v : Value) (ll : List (List Int)) : Prop :=
 ∃ ss : List (Option Addr × Nat × Nat), Own sliceE w base 86 v ss ∧ ss.length = ll.length ∧ ∀ (i : Nat) (s : Option Addr × Nat × Nat) (r : List Int), ss[i]? = some s → ll[i]? = some r → Own u64E w base 87 (.slice s.1 s.2.1 s.2.2) r
theorem RowsAt.ext {w w' : World} {base : Nat} {v : Value} {ll : List (List Int)} (h : RowsAt w base v ll) (e : Ext w w') : RowsAt w' base v ll := by
 obtain ⟨ss, h1, h2, h3⟩ := h
 exact ⟨ss, h1.ext e, h2, fun i s r hs hr => (h3 i s r hs hr).ext e⟩
theorem RowsAt.snoc {w w' : World} {base : Nat} {v' : Value} {ll : List (List Int)} {ss : List (Option Addr × Nat × Nat)} {s : Option Addr × Nat × Nat} {r : List Int}
  (h2 : ss.length = ll.length) (h3 : ∀ (i : Nat) (s : Option Addr × Nat × Nat) (r : List Int), ss[i]? = some s → ll[i]? = some r → Own u64E w base 87 (.slice s.1 s.2.1 s.2.2) r) (ho : Own sliceE w' base 86 v' (ss ++ [s])) (hr : Own u64E w' base 87 (.slice s.1 s.2.1 s.2.2) r)
  (hk : ∀ (x : Option Addr × Nat × Nat) (y : List Int), Own u64E w base 87 (.slice x.1 x.2.1 x.2.2) y → Own u64E w' base 87 (.slice x.1 x.2.1 x.2.2) y) : RowsAt w' base v' (ll ++ [r]) := by
 refine ⟨ss ++ [s], ho, by simp [h2], fun i x y hx hy => ?_⟩
 by_cases hi : i < ss.length
 ·rw [List.getElem?_append_left hi] at hx
  rw [List.getElem?_append_left (by omega)] at hy
  exact hk x y (h3 i x y hx hy)
 ·rw [List.getElem?_append_right (by omega)] at hx
  rw [List.getElem?_append_right (by omega)] at hy
  have hi0 : i - ss.length = 0 := by
   have := (List.getElem?_eq_some_iff.1 hx).1
   simp at this
   omega
  rw [hi0] at hx
  rw [← h2, hi0] at hy
  simp at hx hy
  subst hx hy
  exact hr
theorem own_ne_own {α β : Type} {E : Enc α} {E' : Enc β} {w : World} {base base' : Nat} {e e' : TypeId} {v v' : Value} {l : List α} {l' : List β} (h : Own E w base e v l) (h' : Own E' w base' e' v' l') (hne : e ≠ e') {k : Nat} (hk : v.ownBlock = some k) : v'.ownBlock ≠ some k := by
 rcases h.2 with ⟨rfl, _⟩ | ⟨g, cap, cur, rfl, _, hg, _⟩
 ·simp [Value.ownBlock] at hk
 ·rcases h'.2 with ⟨rfl, _⟩ | ⟨g', cap', cur', rfl, _, hg', _⟩
  ·simp [Value.ownBlock]
  ·intro he
   have e1 : g = k := by simpa [Value.ownBlock] using hk
   have e2 : g' = k := by simpa [Value.ownBlock] using he
   subst e1 e2
   rw [hg] at hg'
   injection hg' with hg'
   injection hg' with _ ht
   exact hne ht

set_option maxRecDepth 100000 in
set_option maxHeartbeats 400000 in
theorem eachRow_any {w : World} {a : Option Addr} {l : List Cell} (c : Nat) {f : Nat} {caps : Array Value} {g : Cell → List Int} (hl : l.length ≤ 1000000) (hr : RowC w a l)
  (hf : ∀ w', Ext w w' → ∀ q, q ∈ l → Calls Tryz.prog f (#[.agg #[.int .i64 q.1, .int .i64 q.2]] ++ caps) w' fun e w2 => ∃ s : Option Addr × Nat × Nat, e = .returned (.slice s.1 s.2.1 s.2.2) ∧ Ext w' w2 ∧ Own u64E w2 w'.heap.size 87 (.slice s.1 s.2.1 s.2.2) (g q))
  (eg : ∀ args w, (callFunc f args).run Tryz.prog w = .ok (.enter f args) w) :
  Calls Tryz.prog 172 #[.slice a l.length c, .func (.func f) #[] caps] w fun e w' => ∃ v, e = .returned v ∧ Ext w w' ∧ RowsAt w' w.heap.size v (l.map g) := by
 have HF := hide hf
 have HR := hide hr
 obtain ⟨n, hnn⟩ : ∃ n, l.length = n := ⟨_, rfl⟩
 have HN := hide hnn
 rw [hnn] at hl ⊢
 clear hf hr hnn
 go_enter Tryz.func172, Tryz.ntmps172
 go_wp2_with (at_make; refine wpList_make_zero sliceE T_rows rfl _ _ rfl w.heap.size n rfl rfl (by omega) (by decide) (Nat.le_refl _) ?_)
 intro g0 w1 ho1 hx1
 have O1 := hide (show RowsAt w1 w.heap.size (.slice (some ⟨g0, 0, none⟩) 0 n) [] from ⟨[], ho1, rfl, fun i s r h => by simp at h⟩)
 have X1 := hide hx1
 clear ho1 hx1
 go_wp2_with fail
 go_loopw [5, 13] (fun ov iv wr => ∃ k : Nat, k ≤ n ∧ iv = .int .i64 k ∧ RowsAt wr w.heap.size ov ((l.take k).map g) ∧ Ext w wr) (fun _ iv _ => n - (intOf iv).toNat)
 case atStart => exact ⟨0, Nat.zero_le _, rfl, O1.out, X1.out⟩
 case round =>
  obtain ⟨k, hk, rfl, ho, hx⟩ := hrel
  have O := hide ho
  have X := hide hx
  have hz := hx.size
  clear ho hx O1 X1
  by_cases hlt : k < n
  ·obtain ⟨q, hq⟩ : ∃ q, l[k]? = some q := ⟨_, List.getElem?_eq_getElem (by rw [HN.out]; exact hlt)⟩
   obtain ⟨b, off, rfl, hb, hc⟩ := HR.out (by rw [HN.out]; omega)
   obtain ⟨hkl, hql⟩ := List.getElem?_eq_some_iff.1 hq
   have h1 := hc k hkl
   rw [hql] at h1
   have d0 := (X.out.cell (p := ⟨b, off + k * 2, none⟩) hb).trans h1.1
   have d1 := (X.out.cell (p := ⟨b, off + k * 2 + 1, none⟩) hb).trans h1.2
   have hbw : b < wr.heap.size := by omega
   have HQ := hide (fun w' (hx : Ext wr w') => HF.out w' (X.out.trans hx) q (List.mem_of_getElem? hq))
   have HT := hide (take_map l g hq)
   obtain ⟨ss, s1, s2, s3⟩ := O.out
   have S1 := hide s1
   have S2 := hide s2
   have S3 := hide s3
   have hll : ss.length = k := by rw [s2, List.length_map, List.length_take]; omega
   have HLL := hide hll
   have jk : (k : Int) < (n : Int) := by omega
   clear hq hc hkl hql h1 hll s1 s2 s3
   go_wp2_with fail
   refine (HQ.out _ (by (with_reducible (repeat' (first | exact z_r _ | assumption | refine z_d ?_ | refine z_n ?_ _ | refine z_a ?_ _ | refine z_s ?_ ?_ _ | refine z_t ?_ (by assumption)))); all_goals (simp <;> omega))).mono ?_
   rintro e w2 ⟨sv, rfl, hb2, ho2⟩
   have hx2 : Ext wr w2 := (by (with_reducible (repeat' (first | exact z_r _ | assumption | refine z_d ?_ | refine z_n ?_ _ | refine z_a ?_ _ | refine z_s ?_ ?_ _ | refine z_t ?_ (by assumption)))); all_goals (simp <;> omega))
   have O2 := hide (S1.out.ext hx2)
   have R2 := hide (ho2.lower (base' := w.heap.size) (by simp; omega))
   have X2 := hide (X.out.trans hx2)
   have XR2 := hide hx2
   have hz2 := hx2.size
   clear hb2 hx2 ho2
   have FIN : Hid (∀ g9 c9 w9, Own sliceE w9 w.heap.size 86 (.slice (some ⟨g9, 0, none⟩) (ss.length + 1) c9) (ss ++ [sv]) → Touch (fun k => Value.ownBlock u5 = some k) w2 w9 → RowsAt w9 w.heap.size (.slice (some ⟨g9, 0, none⟩) (ss.length + 1) c9) ((l.take (k + 1)).map g) ∧ Ext w w9) := hide (fun g9 c9 w9 o9 t9 => by
    have hs3 : ∀ (x : Option Addr × Nat × Nat) (y : List Int), Own u64E w2 w.heap.size 87 (.slice x.1 x.2.1 x.2.2) y → Own u64E w9 w.heap.size 87 (.slice x.1 x.2.1 x.2.2) y := fun x y hy => Own.touch hy t9 (fun k hk hu => own_ne_own O2.out hy (by decide) hu hk)
    refine ⟨?_, X2.out.of_below (Touch.to_below (B := w.heap.size) t9 (by omega) (fun k h => (own_lt O2.out h).1)) (Nat.le_refl _)⟩
    rw [HT.out]
    exact RowsAt.snoc (w := w2) S2.out (fun i s r h1 h2 => (S3.out i s r h1 h2).ext XR2.out) o9 (hs3 sv _ R2.out) hs3)
   go_wp2_with (at_builtin; refine wpList_app_at sliceE T_rows rfl _ _ rfl w.heap.size _ _ ss rfl O2.out sv _ _ rfl _ rfl rfl (by rw [HLL.out]; omega) (by rw [HLL.out]; omega) (by omega) ?_; intro g9 c9 w9 hown9 t9 l9; have F9 := hide (FIN.out _ _ _ hown9 t9); clear hown9 t9 l9)
   go_roundw
   case rel => exact ⟨k + 1, hlt, by go_num, F9.out.1, F9.out.2⟩
   case measure => simp [intOf]; omega
  ·obtain rfl : k = n := by omega
   go_wp2_with fail
   go_ret
   exact ⟨_, rfl, X.out, by have h := O.out; rw [List.take_of_length_le (by rw [HN.out]; exact Nat.le_refl _)] at h; exact h⟩
end Go.Proofs.YtkioohhjjdlhiaaGreat
