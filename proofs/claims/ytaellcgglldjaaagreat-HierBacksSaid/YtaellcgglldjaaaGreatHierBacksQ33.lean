/- Part of a proof: RedF PartN. -/
import Derived.Test.YtaellcgglldjaaaGreatHierBacksQ19
import Derived.Test.YtaellcgglldjaaaGreatHierBacksQ02
set_option linter.all false
set_option linter.unusedVariables false
set_option linter.unusedSimpArgs false
namespace Go.Proofs.YtaellcgglldjaaaGreat
open Go.RowKit
theorem bool_flat (l : List Bool) : l.flatMap boolE.cells = l.map Value.bool := by
 induction l with
 | nil => rfl
 | cons a l ih => simp [boolE] at *; exact ih
def rowBl (x : Bool) (n m : Nat) : List Value := List.replicate m (.bool x) ++ List.replicate (n - m) (.bool false)
theorem rowBl_len {x : Bool} {n m : Nat} (h : m ≤ n) : (rowBl x n m).length = n := by simp [rowBl]; omega
theorem rowBl_at {x : Bool} {n m k : Nat} (h : k < m) : (rowBl x n m)[k]? = some (.bool x) := by
 unfold rowBl
 rw [List.getElem?_append_left (by simpa using h)]
 simp [h]
theorem rowBl_splice {x : Bool} {n m d : Nat} : splice (rowBl x n m) m (List.replicate d (.bool x)) = rowBl x n (m + d) := by
 unfold splice rowBl
 rw [List.take_append_of_le_length (by simp), List.take_of_length_le (by simp), List.drop_append]
 simp only [List.length_replicate, List.drop_replicate]
 rw [show m - (m + d) = 0 by omega, show m + d - m = d by omega, show n - m - d = n - (m + d) by omega]
 simp only [List.replicate_zero, List.nil_append]
 rw [← List.append_assoc, List.replicate_append_replicate]
set_option maxRecDepth 100000 in
theorem repeatB_one {w : World} (b : Nat) (x : Bool) (n : Nat) (h1 : 1 ≤ n) (hn : n ≤ 100000) (hb : b < w.heap.size) (hx : w.cell? ⟨b, 0, none⟩ = some (.bool x)) :
  Calls Tryz.prog 39 #[.slice (some ⟨b, 0, none⟩) 1 1, .int .i64 (n : Int)] w fun e w' => ∃ v, e = .returned v ∧ Ext w w' ∧ Own boolE w' w.heap.size 4 v (List.replicate n x) := by
 have H1 := hide (mul_one n (by omega) w)
 have hu := T_bools.under
 have hinf : (Tryz.prog.info? 4).map (fun i => (i.zero, i.size, i.bytes)) = some (some (.bool false), 1, 1) := by kernel_rfl
 have hsz : (Tryz.prog.info? 4).map (·.size) = some 1 := by kernel_rfl
 have hmk := run_make_row' (P := Tryz.prog) 96 4 (.bool false) 1 hu hinf rfl .i64 .i64 n (by omega) (by omega)
 have e1 : IntKind.i64.wrap (n : Int) = (n : Int) := IntWalk.i64_in _ (by omega)
 have e2 : IntKind.u64.wrap (n : Int) = (n : Int) := by rw [IntKind.wrap_u64]; omega
 have g1 : ¬ ((n : Int) < 0) := by omega
 have g2 : ¬ ((9223372036854775807 : Int) < (n : Int)) := by omega
 have HSZ := hide hsz
 have HU := hide hu
 clear hsz hu hinf
 go_enter Tryz.func39, Tryz.ntmps39
 go_upto_region 7 with (first | (go_at_call 83; refine (H1.out).mono ?_; rintro e w' ⟨rfl, hw⟩; rw [hw]; clear hw))
 obtain ⟨w1, hw1⟩ : ∃ w1, w1 = w.alloc (.cells (madeCells #[.bool false] n) 4) := ⟨_, rfl⟩
 have hx1 : Ext w w1 := by rw [hw1]; exact z_x
 have r1 : w1.heap[w.heap.size]? = some (.cells (rowBl x n 0).toArray 4 (0, 0)) := by
  rw [hw1, heap_new]
  congr 1
  congr 1
  apply Array.toList_inj.1
  rw [toList_madeCells_one]
  simp [rowBl]
 have x1 := (hx1.cell (p := ⟨b, 0, none⟩) hb).trans hx
 rw [← hw1]
 clear hw1 hmk
 have R1 := hide r1
 have X1 := hide x1
 have HX1 := hide hx1
 clear r1 x1 hx1
 have hmin : ([Value.bool x] : List Value).length = Nat.min 1 n := (Nat.min_eq_left h1).symm
 have hfit : 0 + ([Value.bool x] : List Value).length ≤ (rowBl x n 0).length := by rw [rowBl_len (by omega)]; simp; omega
 have hpos : 0 < ([Value.bool x] : List Value).length → some (⟨w.heap.size, 0, none⟩ : Addr) = some ⟨w.heap.size, 0, none⟩ ∧ ∃ ad, some (⟨b, 0, none⟩ : Addr) = some ad ∧ ∀ j v, ([Value.bool x] : List Value)[j]? = some v → w1.cell? (ad.add j) = some v := fun _ => ⟨rfl, _, rfl, fun j v hj => by
  cases j with
  | zero => simp at hj; subst hj; exact X1.out
  | succ j => simp at hj⟩
 have hone : ∀ v ∈ [Value.bool x], v.oneCell' = true := fun v hv => by simp at hv; subst hv; rfl
 have HP := hide hpos
 have HO := hide hone
 clear hpos hone
 go_wp2_with (with_reducible refine wpList_copy_splice rfl (.tmp 31) (.tmp 32) 96 96 rfl 4 HU.out HSZ.out (some ⟨w.heap.size, 0, none⟩) (some ⟨b, 0, none⟩) n n 1 1 rfl rfl w.heap.size 0 (rowBl x n 0) 4 R1.out [.bool x] hmin HP.out hfit HO.out w.heap.size w HX1.out.below (Nat.le_refl _) ?_; intro w2 hg2 hb2; have hb2h := hide hb2; clear hb2)
 have R2 : Hid (w2.heap[w.heap.size]? = some (.cells (rowBl x n 1).toArray 4 (0, 0))) := by
  have e := rowBl_splice (x := x) (n := n) (m := 0) (d := 1)
  rw [show List.replicate 1 (Value.bool x) = [Value.bool x] from rfl, Nat.zero_add] at e
  rw [← e]
  exact hg2
 clear hg2 R1 X1 HX1 HP HO H1
 go_loopw [8] (fun i wr => ∃ m : Nat, 1 ≤ m ∧ m ≤ n ∧ i = .int .i64 m ∧ wr.heap[w.heap.size]? = some (.cells (rowBl x n m).toArray 4 (0, 0)) ∧ Below w.heap.size w wr) (fun i _ => n - (intOf i).toNat)
 case atStart => exact ⟨1, Nat.le_refl _, h1, rfl, R2.out, hb2h.out⟩
 case round =>
  obtain ⟨m, hm1, hmn, rfl, hrow, hbel⟩ := hrel
  have HR := hide hrow
  have HB := hide hbel
  have hz := hbel.size
  clear hrow hbel R2 hb2h
  by_cases hlt : m < n
  ·have hli : (m : Int) < (n : Int) := by omega
   have hli0 : (0 : Int) ≤ (m : Int) := by omega
   obtain ⟨d, hd, hd1, hd2⟩ : ∃ d, d = min m (n - m) ∧ 1 ≤ d ∧ m + d ≤ n := ⟨_, rfl, by omega, by omega⟩
   have c1 : (List.replicate d (Value.bool x)).length = Nat.min m (n - m) := by rw [List.length_replicate]; exact hd
   have c2 : m + (List.replicate d (Value.bool x)).length ≤ (rowBl x n m).length := by rw [rowBl_len hmn, List.length_replicate]; exact hd2
   have c3 := hide (fun (wq : World) (hq : wq.heap[w.heap.size]? = some (.cells (rowBl x n m).toArray 4 (0, 0))) => (fun _ => ⟨if_neg (by omega), _, rfl, fun j v hj => by
    rw [List.getElem?_replicate] at hj
    split at hj
    ·cases hj
     have : (wq.cell? ((⟨w.heap.size, 0, none⟩ : Addr).add j)) = (rowBl x n m)[j]? := by
      rw [show ((⟨w.heap.size, 0, none⟩ : Addr).add j) = ⟨w.heap.size, j, none⟩ by simp [Addr.add]; exact fun h => h.symm]
      simp [World.cell?, hq]
     rw [this]
     exact rowBl_at (by omega)
    ·cases hj⟩ : 0 < (List.replicate d (Value.bool x)).length → (if n = m then some (⟨w.heap.size, 0, none⟩ : Addr) else some ⟨w.heap.size, m, none⟩) = some ⟨w.heap.size, m, none⟩ ∧ ∃ ad, some (⟨w.heap.size, 0, none⟩ : Addr) = some ad ∧ ∀ j v, (List.replicate d (Value.bool x))[j]? = some v → wq.cell? (ad.add j) = some v))
   have c4 := hide (fun v hv => by rw [List.eq_of_mem_replicate hv]; rfl : ∀ v ∈ List.replicate d (Value.bool x), v.oneCell' = true)
   have HSP := hide (rowBl_splice (x := x) (n := n) (m := m) (d := d))
   have c5 := hide c1
   have c6 := hide c2
   clear c1 c2
   go_wp2_with fail
   have HDD := hide hd
   clear hd
   have k1 : IntKind.i64.wrap ((m : Int) + (d : Int)) = (m : Int) + (d : Int) := IntWalk.i64_in _ (by omega)
   have k2 : (List.replicate d (Value.bool x)).length = d := List.length_replicate
   refine wp_region_held_drew (S := (fun _ => True)) (by kernel_rfl) trivial (fun hHeld => ?_)
   (((refine wpAnyH_take (i := 0) (oi := ?g71_o) (v := ?g71_v) ?g71_hi (by kernel_rfl) (by kernel_rfl) (by kernel_rfl) ?g71_hq ?g71_hy (by assumption) ?g71_gr; (case g71_hi => (simp only [z_0, z_2]; rfl)); (case g71_hq => exact fun _ _ _ h => h); (case g71_hy => (refine Or.inl ⟨by rfl, ?_⟩; intro w hSw; (try dsimp only at hSw); go_simp; try with_reducible rfl)); try simp only [Act.put, z_3, z_4, z_5])); ((refine wpAnyH_take (i := 1) (oi := ?g72_o) (v := ?g72_v) ?g72_hi (by kernel_rfl) (by kernel_rfl) (by kernel_rfl) ?g72_hq ?g72_hy (by assumption) ?g72_gr; (case g72_hi => (simp only [z_0, z_1, z_2]; rfl)); (case g72_hq => exact fun _ _ _ h => h); (case g72_hy => (refine Or.inl ⟨by rfl, ?_⟩; intro w hSw; (try dsimp only at hSw); go_simp; try with_reducible rfl)); try simp only [Act.put, z_3, z_4, z_5])); ((refine wpAnyH_take (i := 2) (oi := ?g73_o) (v := ?g73_v) ?g73_hi (by kernel_rfl) (by kernel_rfl) (by kernel_rfl) ?g73_hq ?g73_hy (by assumption) ?g73_gr; (case g73_hi => (simp only [z_0, z_1, z_2]; rfl)); (case g73_hq => exact fun _ _ _ h => h); (case g73_hy => (refine Or.inl ⟨by rfl, ?_⟩; intro w hSw; (try dsimp only at hSw); go_simp; try with_reducible rfl)); try simp only [Act.put, z_3, z_4, z_5])); ((refine wpAnyH_take (i := 3) (oi := ?g74_o) (v := ?g74_v) ?g74_hi (by kernel_rfl) (by kernel_rfl) (by kernel_rfl) ?g74_hq ?g74_hy (by assumption) ?g74_gr; (case g74_hi => (simp only [z_0, z_1, z_2]; rfl)); (case g74_hq => exact fun _ _ _ h => h); (case g74_hy => (refine Or.inl ⟨by rfl, ?_⟩; intro w hSw; (try dsimp only at hSw); go_simp; try with_reducible rfl)); try simp only [Act.put, z_3, z_4, z_5])); ((refine wpAnyH_take (i := 4) (oi := ?g75_o) (v := ?g75_v) ?g75_hi (by kernel_rfl) (by kernel_rfl) (by kernel_rfl) ?g75_hq ?g75_hy (by assumption) ?g75_gr; (case g75_hi => (simp only [z_0, z_1, z_2]; rfl)); (case g75_hq => exact fun _ _ _ h => h); (case g75_hy => (refine Or.inl ⟨by rfl, ?_⟩; intro w hSw; (try dsimp only at hSw); go_simp; try with_reducible rfl)); try simp only [Act.put, z_3, z_4, z_5])); ((refine wpAnyH_take (i := 5) (oi := ?g76_o) (v := ?g76_v) ?g76_hi (by kernel_rfl) (by kernel_rfl) (by kernel_rfl) ?g76_hq ?g76_hy (by assumption) ?g76_gr; (case g76_hi => (simp only [z_0, z_1, z_2]; rfl)); (case g76_hq => exact fun _ _ _ h => h); (case g76_hy => (refine Or.inl ⟨by rfl, ?_⟩; intro w hSw; (try dsimp only at hSw); go_simp; try with_reducible rfl)); try simp only [Act.put, z_3, z_4, z_5])); ((refine wpAnyH_take (i := 6) (oi := ?g77_o) (v := ?g77_v) ?g77_hi (by kernel_rfl) (by kernel_rfl) (by kernel_rfl) ?g77_hq ?g77_hy (by assumption) ?g77_gr; (case g77_hi => (simp only [z_0, z_1, z_2]; rfl)); (case g77_hq => exact fun _ _ _ h => h); (case g77_hy => (refine Or.inl ⟨by rfl, ?_⟩; intro w hSw; (try dsimp only at hSw); go_simp; try with_reducible rfl)); try simp only [Act.put, z_3, z_4, z_5])))
   refine wpAnyH_ready (rs := [7]) (by kernel_rfl) (by simp) ?_
   refine AllReadyH.cons (o := ?go) ?ghi (fun K hK => ?_) AllReadyH.nil
   case ghi => (simp only [List.getElem?_toArray, List.getElem?_cons_succ, List.getElem?_cons_zero]; rfl)
   refine step_copy_splice rfl (.tmp 41) (.tmp 44) 96 96 rfl 4 HU.out HSZ.out (if n = m then some (⟨w.heap.size, 0, none⟩ : Addr) else some ⟨w.heap.size, m, none⟩) (some ⟨w.heap.size, 0, none⟩) (n - m) (n - m) m n rfl rfl w.heap.size m (rowBl x n m) 4 HR.out (List.replicate d (.bool x)) c5.out (c3.out _ HR.out) c6.out c4.out w.heap.size w HB.out.drew (Nat.le_refl _) ?_
   intro w4 hg4 hb4
   refine hK.out _ _ trivial (fun hHeld => ?_)
   clear hK K
   simp only [Act.put, List.setIfInBounds_toArray, List.set_cons_zero, List.set_cons_succ]
   rw [k2]
   (((refine wpAnyH_take (i := 8) (oi := ?g78_o) (v := ?g78_v) ?g78_hi (by kernel_rfl) (by kernel_rfl) (by kernel_rfl) ?g78_hq ?g78_hy (by assumption) ?g78_gr; (case g78_hi => (simp only [z_0, z_1, z_2]; rfl)); (case g78_hq => exact fun _ _ _ h => h); (case g78_hy => (refine Or.inl ⟨by rfl, ?_⟩; intro w hSw; (try dsimp only at hSw); go_simp; try with_reducible rfl)); try simp only [Act.put, z_3, z_4, z_5])); ((refine wpAnyH_take (i := 9) (oi := ?g79_o) (v := ?g79_v) ?g79_hi (by kernel_rfl) (by kernel_rfl) (by kernel_rfl) ?g79_hq ?g79_hy (by assumption) ?g79_gr; (case g79_hi => (simp only [z_0, z_1, z_2]; rfl)); (case g79_hq => exact fun _ _ _ h => h); (case g79_hy => (refine Or.inl ⟨by rfl, ?_⟩; intro w hSw; (try dsimp only at hSw); go_simp; try with_reducible rfl)); try simp only [Act.put, z_3, z_4, z_5])))
   refine wpAnyH_done (by kernel_rfl) ?_ _
   have HG4 := hide hg4
   have HB4 := hide hb4
   clear hg4 hb4
   go_wp2
   go_roundw
   case rel => exact ⟨m + d, by omega, hd2, by go_num, by rw [← HSP.out]; exact HG4.out.out, HB4.out⟩
   case measure => simp [intOf]; omega
  ·obtain rfl : m = n := by omega
   go_wp2
   go_ret
   exact ⟨_, rfl, HB.out, by
    have hrw := HR.out
    unfold Own
    rw [List.length_replicate, bool_flat, List.map_replicate]
    refine ⟨by simp [boolE], .inr ⟨w.heap.size, m, _, rfl, Nat.le_refl _, hrw, Nat.le_refl _, by unfold maxLen; omega, by simp [rowBl, boolE], by simp [rowBl, boolE]⟩⟩⟩
theorem made_two (z u v : Value) (hz : z.cells = #[u, v]) (n : Nat) : ((List.replicate n ()).flatMap fun _ => [u, v]) = (madeCells z.cells (n * 2)).toList := by
 unfold madeCells
 rw [hz]
 induction n with
 | zero => simp
 | succ n ih =>
  rw [List.replicate_succ', List.flatMap_append, ih, show (n + 1) * 2 = n * 2 + 1 + 1 by omega, Array.range_succ, Array.range_succ]
  simp [show (n * 2 + 1) % 2 = 1 by omega]
theorem step_make_tabs {ops : Array Oper} {o : Oper} {a : Act} {K : Act → World → Prop} {Q : Exit → Act → World → Prop} {F : Prop} {w : World}
  (hgd : o.guard = none) (l c : Operand) (hop : o.op = Op.makeSlice 90 l c) (base n : Nat) (hl : a.eval l = .int .i64 (n : Int)) (hc : a.eval c = .int .i64 (n : Int)) (hn : n ≤ 100000) (b4 : base ≤ w.heap.size)
  (h : ∀ w', Own tabE w' base 166 (.slice (some ⟨w.heap.size, 0, none⟩) n n) (List.replicate n ((none, 0, 0), (none, 0, 0))) → Ext w w' → K (a.put o.dst (.slice (some ⟨w.heap.size, 0, none⟩) n n)) w') :
  if Region.wanted o (yielded ops a.tmps) = true then Oper.wp Tryz.prog o a w K Q else F := by
 have hw : Region.wanted o (yielded ops a.tmps) = true := by simp [Region.wanted, hgd]
 rw [if_pos hw]
 obtain ⟨i0, hi, hz0, hz1, hz2⟩ := info_parts T_tabs.info
 have hb : 48 * n ≤ 281474976710656 := by omega
 obtain ⟨w', hrun, r1, r2⟩ := run_make_full (P := Tryz.prog) w base 90 166 i0 _ 2 T_tabs.under hi hz0 hz1 .i64 .i64 n (by rw [hz2]; exact hb) (by unfold maxLen; omega) b4
 unfold Oper.wp execOp
 simp only [hop, hl, hc, hrun, Result.andThen_ok, Sem.run_bind, Sem.run_pure]
 refine h w' ?_ ((Ext.refl w).grown r2 (by simp))
 unfold Own
 rw [List.length_replicate]
 have hf : (List.replicate n (((none, 0, 0), (none, 0, 0)) : Sl × Sl)).flatMap tabE.cells = (madeCells (Value.agg #[.slice none 0 0, .slice none 0 0]).cells (n * 2)).toList := by
  rw [← made_two _ (.slice none 0 0) (.slice none 0 0) rfl]
  clear h r1 r2 hrun hb hl hc hn
  induction n with
  | zero => rfl
  | succ n ih => rw [List.replicate_succ, List.flatMap_cons, ih, List.replicate_succ, List.flatMap_cons]; rfl
 rw [hf]
 exact r1
end Go.Proofs.YtaellcgglldjaaaGreat

namespace Go.Proofs.YtaellcgglldjaaaGreat
open Go.RowKit
theorem new_yes (W H s : Int) (w : World) (hr : rightB W H s = true) :
  Calls Tryz.prog 35 #[.agg #[.int .i64 W, .int .i64 H], .int .i64 s] w fun e w' => e = .returned (.tuple #[.agg #[.int .i64 W, .int .i64 H, .int .i64 s], .int .i64 0]) ∧ Ext w w' := by
 go_enter Tryz.func35, Tryz.ntmps35
 go_wp2_with (first
  | (go_at_call 54; refine (right_any _ _ _ _).mono ?_; rintro e w1 ⟨rfl, hb1⟩; obtain ⟨hc1, hf1⟩ := hb1.cells; have hz1 := hb1.size; (repeat (first | rw [World.size_alloc] at hz1 | rw [World.size_drew] at hz1)); have z1_0 : w.heap.size < w1.heap.size := (by omega); have z1_1 : w.heap.size + 1 < w1.heap.size := (by omega); have z1_2 : w.heap.size + 2 < w1.heap.size := (by omega)))
 exact bodyPost_ret (v := .tuple #[.agg #[.int .i64 W, .int .i64 H, .int .i64 s], .int .i64 0]) (by simp [results, Tryz.results35, go_sem, *]) rfl ⟨rfl, z_x⟩
end Go.Proofs.YtaellcgglldjaaaGreat

