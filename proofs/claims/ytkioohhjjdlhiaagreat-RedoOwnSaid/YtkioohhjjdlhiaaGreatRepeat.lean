/- Walk of slices.Repeat of one uint64. -/
import Derived.Test.YtkioohhjjdlhiaaGreatPartB
import Derived.Laws.Bits64b
import Derived.Laws.CopyOwn
import Derived.Deep.RegionLaw
import Derived.Deep.OwnRows
set_option linter.all false
set_option linter.unusedVariables false
set_option linter.unusedSimpArgs false
namespace Go.Proofs.YtkioohhjjdlhiaaGreat
open Go.RowKit

theorem mask_small (n : Nat) (hn : n ≤ 1000000) : bits .and .u64 (n : Int) 4294967295 = (n : Int) := by
 have h := bits_and_u64_nat n 4294967295 (by omega) (by omega)
 have e : n &&& 4294967295 = n % 4294967296 := Nat.and_two_pow_sub_one_eq_mod n 32
 rw [e, Nat.mod_eq_of_lt (by omega)] at h
 exact h
theorem mask_one : bits .and .u64 1 4294967295 = 1 := by decide +kernel
theorem mask_zero : bits .and .u64 0 4294967295 = 0 := by decide +kernel

theorem mul64_one (n : Nat) (hn : n ≤ 1000000) (w : World) : Calls Tryz.prog 176 #[.int .u64 1, .int .u64 (n : Int)] w fun e w' => e = .returned (.tuple #[.int .u64 0, .int .u64 (n : Int)]) ∧ w' = w := by
 have a1 := mask_small n hn
 have a2 := mask_one
 have a3 := mask_zero
 have a4 : (n : Int) / 4294967296 = 0 := by omega
 have a5 : IntKind.u64.wrap (n : Int) = (n : Int) := by rw [IntKind.wrap_u64]; omega
 go_enter Tryz.func176, Tryz.ntmps176
 go_wp2
 go_ret2
 exact ⟨rfl, rfl⟩

theorem mul_one (n : Nat) (hn : n ≤ 1000000) (w : World) : Calls Tryz.prog 115 #[.int .u64 1, .int .u64 (n : Int)] w fun e w' => e = .returned (.tuple #[.int .u64 0, .int .u64 (n : Int)]) ∧ w' = w := by
 have H1 := hide (mul64_one n hn w)
 go_enter Tryz.func115, Tryz.ntmps115
 go_wp2_with (go_at_call 176; refine (H1.out).mono ?_; rintro e w' ⟨rfl, rfl⟩)
 go_ret2
 exact ⟨rfl, rfl⟩

def u64E : Enc Int := ⟨1, fun x => [.int .u64 x], fun _ => rfl, fun _ u hu => by simp at hu; subst hu; rfl⟩
theorem T_u64s : ElemT Tryz.prog 86 87 (.int .u64 0) 1 8 := ⟨Tryz.underlying86, by kernel_rfl, rfl, by decide⟩

theorem u64_flat (l : List Int) : l.flatMap u64E.cells = l.map (Value.int .u64) := by
 induction l with
 | nil => rfl
 | cons a l ih => simp [u64E] at *; exact ih

/-- m times x, and zeroes up to n. -/
def rowU (x : Int) (n m : Nat) : List Value := List.replicate m (.int .u64 x) ++ List.replicate (n - m) (.int .u64 0)
theorem rowU_len {x : Int} {n m : Nat} (h : m ≤ n) : (rowU x n m).length = n := by simp [rowU]; omega
theorem rowU_at {x : Int} {n m k : Nat} (h : k < m) : (rowU x n m)[k]? = some (.int .u64 x) := by
 unfold rowU
 rw [List.getElem?_append_left (by simpa using h)]
 simp [h]
theorem rowU_splice {x : Int} {n m d : Nat} : splice (rowU x n m) m (List.replicate d (.int .u64 x)) = rowU x n (m + d) := by
 unfold splice rowU
 rw [List.take_append_of_le_length (by simp), List.take_of_length_le (by simp), List.drop_append]
 simp only [List.length_replicate, List.drop_replicate]
 rw [show m - (m + d) = 0 by omega, show m + d - m = d by omega, show n - m - d = n - (m + d) by omega]
 simp only [List.replicate_zero, List.nil_append]
 rw [← List.append_assoc, List.replicate_append_replicate]

set_option maxRecDepth 100000 in
theorem repeat_one {w : World} (b : Nat) (x : Int) (n : Nat) (h1 : 1 ≤ n) (hn : n ≤ 100000) (hb : b < w.heap.size) (hx : w.cell? ⟨b, 0, none⟩ = some (.int .u64 x)) :
  Calls Tryz.prog 154 #[.slice (some ⟨b, 0, none⟩) 1 1, .int .i64 (n : Int)] w fun e w' => ∃ v, e = .returned v ∧ Ext w w' ∧ Own u64E w' w.heap.size 87 v (List.replicate n x) := by
 have H1 := hide (mul_one n (by omega) w)
 have hu := T_u64s.under
 have hinf : (Tryz.prog.info? 87).map (fun i => (i.zero, i.size, i.bytes)) = some (some (.int .u64 0), 1, 8) := by kernel_rfl
 have hsz : (Tryz.prog.info? 87).map (·.size) = some 1 := by kernel_rfl
 have hmk := run_make_row' (P := Tryz.prog) 86 87 (.int .u64 0) 8 hu hinf rfl .i64 .i64 n (by omega) (by omega)
 have e1 : IntKind.i64.wrap (n : Int) = (n : Int) := IntWalk.i64_in _ (by omega)
 have e2 : IntKind.u64.wrap (n : Int) = (n : Int) := by rw [IntKind.wrap_u64]; omega
 have g1 : ¬ ((n : Int) < 0) := by omega
 have g2 : ¬ ((9223372036854775807 : Int) < (n : Int)) := by omega
 have HSZ := hide hsz
 have HU := hide hu
 clear hsz hu hinf
 go_enter Tryz.func154, Tryz.ntmps154
 go_upto_region 7 with (first | (go_at_call 115; refine (H1.out).mono ?_; rintro e w' ⟨rfl, hw⟩; rw [hw]; clear hw))
 obtain ⟨w1, hw1⟩ : ∃ w1, w1 = w.alloc (.cells (madeCells #[.int .u64 0] n) 87) := ⟨_, rfl⟩
 have hx1 : Ext w w1 := by rw [hw1]; exact (by (with_reducible (repeat' (first | exact z_r _ | assumption | refine z_d ?_ | refine z_n ?_ _ | refine z_a ?_ _ | refine z_s ?_ ?_ _ | refine z_t ?_ (by assumption)))); all_goals (simp <;> omega))
 have r1 : w1.heap[w.heap.size]? = some (.cells (rowU x n 0).toArray 87 (0, 0)) := by
  rw [hw1, heap_new]
  congr 1
  congr 1
  apply Array.toList_inj.1
  rw [toList_madeCells_one]
  simp [rowU]
 have x1 := (hx1.cell (p := ⟨b, 0, none⟩) hb).trans hx
 rw [← hw1]
 clear hw1 hmk
 have R1 := hide r1
 have X1 := hide x1
 have HX1 := hide hx1
 clear r1 x1 hx1
 have hmin : ([Value.int .u64 x] : List Value).length = Nat.min 1 n := (Nat.min_eq_left h1).symm
 have hfit : 0 + ([Value.int .u64 x] : List Value).length ≤ (rowU x n 0).length := by rw [rowU_len (by omega)]; simp; omega
 have hpos : 0 < ([Value.int .u64 x] : List Value).length → some (⟨w.heap.size, 0, none⟩ : Addr) = some ⟨w.heap.size, 0, none⟩ ∧ ∃ ad, some (⟨b, 0, none⟩ : Addr) = some ad ∧ ∀ j v, ([Value.int .u64 x] : List Value)[j]? = some v → w1.cell? (ad.add j) = some v := fun _ => ⟨rfl, _, rfl, fun j v hj => by
  cases j with
  | zero => simp at hj; subst hj; exact X1.out
  | succ j => simp at hj⟩
 have hone : ∀ v ∈ [Value.int .u64 x], v.oneCell' = true := fun v hv => by simp at hv; subst hv; rfl
 have HP := hide hpos
 have HO := hide hone
 clear hpos hone
 go_wp2_with (with_reducible refine wpList_copy_splice rfl (.tmp 31) (.tmp 32) 86 86 rfl 87 HU.out HSZ.out (some ⟨w.heap.size, 0, none⟩) (some ⟨b, 0, none⟩) n n 1 1 rfl rfl w.heap.size 0 (rowU x n 0) 87 R1.out [.int .u64 x] hmin HP.out hfit HO.out w.heap.size w HX1.out.below (Nat.le_refl _) ?_; intro w2 hg2 hb2; have hb2h := hide hb2; clear hb2)
 have R2 : Hid (w2.heap[w.heap.size]? = some (.cells (rowU x n 1).toArray 87 (0, 0))) := by
  have e := rowU_splice (x := x) (n := n) (m := 0) (d := 1)
  rw [show List.replicate 1 (Value.int .u64 x) = [Value.int .u64 x] from rfl, Nat.zero_add] at e
  rw [← e]
  exact hg2
 clear hg2 R1 X1 HX1 HP HO H1
 go_loopw [8] (fun i wr => ∃ m : Nat, 1 ≤ m ∧ m ≤ n ∧ i = .int .i64 m ∧ wr.heap[w.heap.size]? = some (.cells (rowU x n m).toArray 87 (0, 0)) ∧ Below w.heap.size w wr) (fun i _ => n - (intOf i).toNat)
 case atStart => exact ⟨1, Nat.le_refl _, h1, rfl, R2.out, hb2h.out⟩
 case round =>
  obtain ⟨m, hm1, hmn, rfl, hrow, hbel⟩ := hrel
  have HR := hide hrow
  have HB := hide hbel
  have hz := hbel.size
  clear hrow hbel R2 hb2h
  by_cases hlt : m < n
  ·have hli : (m : Int) < (n : Int) := by omega
   have hli0 : (0 : Int) ≤ (m : Int) := by omega
   obtain ⟨d, hd, hd1, hd2⟩ : ∃ d, d = min m (n - m) ∧ 1 ≤ d ∧ m + d ≤ n := ⟨_, rfl, by omega, by omega⟩
   have c1 : (List.replicate d (Value.int .u64 x)).length = Nat.min m (n - m) := by rw [List.length_replicate]; exact hd
   have c2 : m + (List.replicate d (Value.int .u64 x)).length ≤ (rowU x n m).length := by rw [rowU_len hmn, List.length_replicate]; exact hd2
   have c3 := hide (fun (wq : World) (hq : wq.heap[w.heap.size]? = some (.cells (rowU x n m).toArray 87 (0, 0))) => (fun _ => ⟨if_neg (by omega), _, rfl, fun j v hj => by
    rw [List.getElem?_replicate] at hj
    split at hj
    ·cases hj
     have : (wq.cell? ((⟨w.heap.size, 0, none⟩ : Addr).add j)) = (rowU x n m)[j]? := by
      rw [show ((⟨w.heap.size, 0, none⟩ : Addr).add j) = ⟨w.heap.size, j, none⟩ by simp [Addr.add]; exact fun h => h.symm]
      simp [World.cell?, hq]
     rw [this]
     exact rowU_at (by omega)
    ·cases hj⟩ : 0 < (List.replicate d (Value.int .u64 x)).length → (if n = m then some (⟨w.heap.size, 0, none⟩ : Addr) else some ⟨w.heap.size, m, none⟩) = some ⟨w.heap.size, m, none⟩ ∧ ∃ ad, some (⟨w.heap.size, 0, none⟩ : Addr) = some ad ∧ ∀ j v, (List.replicate d (Value.int .u64 x))[j]? = some v → wq.cell? (ad.add j) = some v))
   have c4 := hide (fun v hv => by rw [List.eq_of_mem_replicate hv]; rfl : ∀ v ∈ List.replicate d (Value.int .u64 x), v.oneCell' = true)
   have HSP := hide (rowU_splice (x := x) (n := n) (m := m) (d := d))
   have c5 := hide c1
   have c6 := hide c2
   clear c1 c2
   go_wp2_with fail
   have HDD := hide hd
   clear hd
   have k1 : IntKind.i64.wrap ((m : Int) + (d : Int)) = (m : Int) + (d : Int) := IntWalk.i64_in _ (by omega)
   have k2 : (List.replicate d (Value.int .u64 x)).length = d := List.length_replicate
   refine wp_region_held_drew (S := (fun _ => True)) (by kernel_rfl) trivial (fun hHeld => ?_)
   (((refine wpAnyH_take (i := 0) (oi := ?g33_o) (v := ?g33_v) ?g33_hi (by kernel_rfl) (by kernel_rfl) (by kernel_rfl) ?g33_hq ?g33_hy (by assumption) ?g33_gr; (case g33_hi => (simp only [z_0, z_2]; rfl)); (case g33_hq => exact fun _ _ _ h => h); (case g33_hy => (refine Or.inl ⟨by rfl, ?_⟩; intro w hSw; (try dsimp only at hSw); go_simp; try with_reducible rfl)); try simp only [Act.put, z_3, z_4, z_5])); ((refine wpAnyH_take (i := 1) (oi := ?g34_o) (v := ?g34_v) ?g34_hi (by kernel_rfl) (by kernel_rfl) (by kernel_rfl) ?g34_hq ?g34_hy (by assumption) ?g34_gr; (case g34_hi => (simp only [z_0, z_1, z_2]; rfl)); (case g34_hq => exact fun _ _ _ h => h); (case g34_hy => (refine Or.inl ⟨by rfl, ?_⟩; intro w hSw; (try dsimp only at hSw); go_simp; try with_reducible rfl)); try simp only [Act.put, z_3, z_4, z_5])); ((refine wpAnyH_take (i := 2) (oi := ?g35_o) (v := ?g35_v) ?g35_hi (by kernel_rfl) (by kernel_rfl) (by kernel_rfl) ?g35_hq ?g35_hy (by assumption) ?g35_gr; (case g35_hi => (simp only [z_0, z_1, z_2]; rfl)); (case g35_hq => exact fun _ _ _ h => h); (case g35_hy => (refine Or.inl ⟨by rfl, ?_⟩; intro w hSw; (try dsimp only at hSw); go_simp; try with_reducible rfl)); try simp only [Act.put, z_3, z_4, z_5])); ((refine wpAnyH_take (i := 3) (oi := ?g36_o) (v := ?g36_v) ?g36_hi (by kernel_rfl) (by kernel_rfl) (by kernel_rfl) ?g36_hq ?g36_hy (by assumption) ?g36_gr; (case g36_hi => (simp only [z_0, z_1, z_2]; rfl)); (case g36_hq => exact fun _ _ _ h => h); (case g36_hy => (refine Or.inl ⟨by rfl, ?_⟩; intro w hSw; (try dsimp only at hSw); go_simp; try with_reducible rfl)); try simp only [Act.put, z_3, z_4, z_5])); ((refine wpAnyH_take (i := 4) (oi := ?g37_o) (v := ?g37_v) ?g37_hi (by kernel_rfl) (by kernel_rfl) (by kernel_rfl) ?g37_hq ?g37_hy (by assumption) ?g37_gr; (case g37_hi => (simp only [z_0, z_1, z_2]; rfl)); (case g37_hq => exact fun _ _ _ h => h); (case g37_hy => (refine Or.inl ⟨by rfl, ?_⟩; intro w hSw; (try dsimp only at hSw); go_simp; try with_reducible rfl)); try simp only [Act.put, z_3, z_4, z_5])); ((refine wpAnyH_take (i := 5) (oi := ?g38_o) (v := ?g38_v) ?g38_hi (by kernel_rfl) (by kernel_rfl) (by kernel_rfl) ?g38_hq ?g38_hy (by assumption) ?g38_gr; (case g38_hi => (simp only [z_0, z_1, z_2]; rfl)); (case g38_hq => exact fun _ _ _ h => h); (case g38_hy => (refine Or.inl ⟨by rfl, ?_⟩; intro w hSw; (try dsimp only at hSw); go_simp; try with_reducible rfl)); try simp only [Act.put, z_3, z_4, z_5])); ((refine wpAnyH_take (i := 6) (oi := ?g39_o) (v := ?g39_v) ?g39_hi (by kernel_rfl) (by kernel_rfl) (by kernel_rfl) ?g39_hq ?g39_hy (by assumption) ?g39_gr; (case g39_hi => (simp only [z_0, z_1, z_2]; rfl)); (case g39_hq => exact fun _ _ _ h => h); (case g39_hy => (refine Or.inl ⟨by rfl, ?_⟩; intro w hSw; (try dsimp only at hSw); go_simp; try with_reducible rfl)); try simp only [Act.put, z_3, z_4, z_5])))
   refine wpAnyH_ready (rs := [7]) (by kernel_rfl) (by simp) ?_
   refine AllReadyH.cons (o := ?go) ?ghi (fun K hK => ?_) AllReadyH.nil
   case ghi => (simp only [List.getElem?_toArray, List.getElem?_cons_succ, List.getElem?_cons_zero]; rfl)
   refine step_copy_splice rfl (.tmp 41) (.tmp 44) 86 86 rfl 87 HU.out HSZ.out (if n = m then some (⟨w.heap.size, 0, none⟩ : Addr) else some ⟨w.heap.size, m, none⟩) (some ⟨w.heap.size, 0, none⟩) (n - m) (n - m) m n rfl rfl w.heap.size m (rowU x n m) 87 HR.out (List.replicate d (.int .u64 x)) c5.out (c3.out _ HR.out) c6.out c4.out w.heap.size w HB.out.drew (Nat.le_refl _) ?_
   intro w4 hg4 hb4
   refine hK.out _ _ trivial (fun hHeld => ?_)
   clear hK K
   simp only [Act.put, List.setIfInBounds_toArray, List.set_cons_zero, List.set_cons_succ]
   rw [k2]
   (((refine wpAnyH_take (i := 8) (oi := ?g40_o) (v := ?g40_v) ?g40_hi (by kernel_rfl) (by kernel_rfl) (by kernel_rfl) ?g40_hq ?g40_hy (by assumption) ?g40_gr; (case g40_hi => (simp only [z_0, z_1, z_2]; rfl)); (case g40_hq => exact fun _ _ _ h => h); (case g40_hy => (refine Or.inl ⟨by rfl, ?_⟩; intro w hSw; (try dsimp only at hSw); go_simp; try with_reducible rfl)); try simp only [Act.put, z_3, z_4, z_5])); ((refine wpAnyH_take (i := 9) (oi := ?g41_o) (v := ?g41_v) ?g41_hi (by kernel_rfl) (by kernel_rfl) (by kernel_rfl) ?g41_hq ?g41_hy (by assumption) ?g41_gr; (case g41_hi => (simp only [z_0, z_1, z_2]; rfl)); (case g41_hq => exact fun _ _ _ h => h); (case g41_hy => (refine Or.inl ⟨by rfl, ?_⟩; intro w hSw; (try dsimp only at hSw); go_simp; try with_reducible rfl)); try simp only [Act.put, z_3, z_4, z_5])))
   refine wpAnyH_done (by kernel_rfl) ?_ _
   have HG4 := hide hg4
   have HB4 := hide hb4
   clear hg4 hb4
   go_wp2
   go_roundw
   case rel => exact ⟨m + d, by omega, hd2, by go_num, by rw [← HSP.out]; exact HG4.out.out, HB4.out⟩
   case measure => simp [intOf]; omega
  ·obtain rfl : m = n := by omega
   go_wp2
   go_ret
   exact ⟨_, rfl, HB.out, by
    have hrw := HR.out
    unfold Own
    rw [List.length_replicate, u64_flat, List.map_replicate]
    refine ⟨by simp [u64E], .inr ⟨w.heap.size, m, _, rfl, Nat.le_refl _, hrw, Nat.le_refl _, by unfold maxLen; omega, by simp [rowU, u64E], by simp [rowU, u64E]⟩⟩⟩
end Go.Proofs.YtkioohhjjdlhiaaGreat
