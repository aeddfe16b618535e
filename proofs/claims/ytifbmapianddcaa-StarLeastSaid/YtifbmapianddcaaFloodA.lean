/- Walks of the flood's small functions: sat.Add, land.at, land.open, key. -/
import Derived.Test.YtifbmapianddcaaGeom
import Derived.Test.YtifbmapianddcaaField
import Derived.Test.YtifbmapianddcaaHeapA
set_option linter.all false
set_option linter.unusedVariables false
set_option linter.unusedSimpArgs false
namespace Go.Proofs.Ytifbmapianddcaa
open Go.RowKit

theorem satAdd_any (a b : Int) (w : World) (h1 : 0 ≤ a) (h2 : 0 ≤ b) (h3 : a ≤ 18446744073709551615) (h4 : b ≤ 18446744073709551615) :
    Calls Try.prog 88 #[.int .u64 a, .int .u64 b] w fun e w' => e = .returned (.int .u64 (if a + b ≤ 18446744073709551615 then a + b else 18446744073709551615)) ∧ Ext w w' := by
  have k1 : IntKind.u64.wrap (18446744073709551615 - b) = 18446744073709551615 - b := by unfold IntKind.wrap; simp [IntKind.bits, IntKind.signed]; omega
  by_cases h : a + b ≤ 18446744073709551615
  · have k2 : IntKind.u64.wrap (a + b) = a + b := by unfold IntKind.wrap; simp [IntKind.bits, IntKind.signed]; omega
    have hd : decide (18446744073709551615 - b < a) = false := by simp; omega
    rw [if_pos h]
    clear h
    go_enter Try.func88, Try.ntmps88
    go_wp2
    go_ret
    exact ⟨rfl, (by (with_reducible (repeat' (first | exact Ext.refl _ | assumption | refine Ext.drew ?_ | refine Ext.drewN ?_ _ | refine Ext.alloc ?_ _ | refine Ext.setCell ?_ ?_ _ | refine Ext.trans ?_ (by assumption)))); all_goals (first | (simp; done) | (simp; omega)))⟩
  · have hd : decide (18446744073709551615 - b < a) = true := by simp; omega
    rw [if_neg h]
    clear h
    go_enter Try.func88, Try.ntmps88
    go_wp2
    go_ret
    exact ⟨rfl, (by (with_reducible (repeat' (first | exact Ext.refl _ | assumption | refine Ext.drew ?_ | refine Ext.drewN ?_ _ | refine Ext.alloc ?_ _ | refine Ext.setCell ?_ ?_ _ | refine Ext.trans ?_ (by assumption)))); all_goals (first | (simp; done) | (simp; omega)))⟩

/-- A field in memory, and a box of it. -/
structure LandAt (w : World) (W H : Int) (a : Option Addr) (l : List Int) (bx byy bw bh : Int) : Prop where
  may : mayB W H = true
  len : (l.length : Int) = W * H
  row : Row16 w a l
  u16 : U16s l
  fits : fitsR W H bx byy bw bh = true
theorem LandAt.ext {w w' : World} {W H : Int} {a : Option Addr} {l : List Int} {bx byy bw bh : Int} (L : LandAt w W H a l bx byy bw bh) (e : Ext w w') : LandAt w' W H a l bx byy bw bh := { L with row := L.row.ext e }

/-- May one go on a cell? -/
def openB (l : List Int) (W bx byy bw bh x y : Int) : Bool := hasB bx byy bw bh x y && decide (0 < costI l W (x, y))

theorem fAt_any (W H : Int) (a : Option Addr) (n c : Nat) (bx byy bw bh x y : Int) (w : World) (hm : mayB W H = true) (h1 : 0 ≤ x) (h2 : x < W) (h3 : 0 ≤ y) (h4 : y < H) :
    Calls Try.prog 151 #[.agg #[.int .i64 W, .int .i64 H, .slice a n c, .int .i64 bx, .int .i64 byy, .int .i64 bw, .int .i64 bh], .agg #[.int .i64 x, .int .i64 y]] w fun e w' => e = .returned (.int .i64 (y * W + x)) ∧ Ext w w' := by
  obtain ⟨m1, m2, m3, m4⟩ := mayB_true.1 hm
  have ib := idx_bd h1 h2 h3 h4
  have wb := mul_bd (a := W) (b := H) (A := 256) (B := 256) (by omega) m2 (by omega) m4
  have k1 : IntKind.i64.wrap (y * W) = y * W := IntWalk.i64_in _ (by omega)
  have k2 : IntKind.i64.wrap (y * W + x) = y * W + x := IntWalk.i64_in _ (by omega)
  go_enter Try.func151, Try.ntmps151
  go_wp2
  go_ret
  exact ⟨rfl, (by (with_reducible (repeat' (first | exact Ext.refl _ | assumption | refine Ext.drew ?_ | refine Ext.drewN ?_ _ | refine Ext.alloc ?_ _ | refine Ext.setCell ?_ ?_ _ | refine Ext.trans ?_ (by assumption)))); all_goals (first | (simp; done) | (simp; omega)))⟩

theorem fKey_any (f x y : Int) (w : World) : Calls Try.prog 152 #[.int .u64 f, .agg #[.int .i64 x, .int .i64 y]] w fun e w' => e = .returned (keyV ((f, 0), (y, x))) ∧ Ext w w' := by
  unfold keyV
  go_enter Try.func152, Try.ntmps152
  go_wp2
  exact bodyPost_ret (v := .agg #[.int .u64 f, .int .u64 0, .int .i64 y, .int .i64 x]) (by simp [results, Try.results152, go_sem, *]) rfl ⟨rfl, (by (with_reducible (repeat' (first | exact Ext.refl _ | assumption | refine Ext.drew ?_ | refine Ext.drewN ?_ _ | refine Ext.alloc ?_ _ | refine Ext.setCell ?_ ?_ _ | refine Ext.trans ?_ (by assumption)))); all_goals (first | (simp; done) | (simp; omega)))⟩

set_option maxRecDepth 100000 in
theorem fOpen_any {w : World} {W H : Int} {a : Option Addr} {l : List Int} {bx byy bw bh : Int} (L : LandAt w W H a l bx byy bw bh) (c : Nat) (x y : Int) :
    Calls Try.prog 150 #[.agg #[.int .i64 W, .int .i64 H, .slice a l.length c, .int .i64 bx, .int .i64 byy, .int .i64 bw, .int .i64 bh], .agg #[.int .i64 x, .int .i64 y]] w fun e w' => e = .returned (.bool (openB l W bx byy bw bh x y)) ∧ Ext w w' := by
  obtain ⟨hm, hl, hr, hu, hf⟩ := L
  have HG := hide (fun w' => gHas_any bx byy bw bh x y w')
  rw [hasG_eq hm hf] at HG
  unfold openB
  cases hh : hasB bx byy bw bh x y
  · rw [hh] at HG
    obtain ⟨n, hn⟩ : ∃ n, l.length = n := ⟨_, rfl⟩
    rw [hn]
    clear hl hr hu hf hh hn
    simp only [Bool.false_and]
    go_enter Try.func150, Try.ntmps150
    go_wp2_with fail
    obtain ⟨w0, hw0⟩ : ∃ w0, w0 = (w.alloc (.cells #[.int .i64 W, .int .i64 H, .slice a n c, .int .i64 bx, .int .i64 byy, .int .i64 bw, .int .i64 bh] 173)).alloc (.cells #[.int .i64 x, .int .i64 y] 28) := ⟨_, rfl⟩
    have hx0 : Ext w w0 := by rw [hw0]; exact (by (with_reducible (repeat' (first | exact Ext.refl _ | assumption | refine Ext.drew ?_ | refine Ext.drewN ?_ _ | refine Ext.alloc ?_ _ | refine Ext.setCell ?_ ?_ _ | refine Ext.trans ?_ (by assumption)))); all_goals (first | (simp; done) | (simp; omega)))
    have z0 : w.heap.size < w0.heap.size := by rw [hw0]; simp; omega
    have z1 : w.heap.size + 1 < w0.heap.size := by rw [hw0]; simp
    have q0 : w0.cell? ⟨w.heap.size, 0, none⟩ = some (.int .i64 W) := by rw [hw0]; simp [go_sem]
    have q1 : w0.cell? ⟨w.heap.size, 1, none⟩ = some (.int .i64 H) := by rw [hw0]; simp [go_sem]
    have q2 : w0.cell? ⟨w.heap.size, 2, none⟩ = some (.slice a n c) := by rw [hw0]; simp [go_sem]
    have q3 : w0.cell? ⟨w.heap.size, 3, none⟩ = some (.int .i64 bx) := by rw [hw0]; simp [go_sem]
    have q4 : w0.cell? ⟨w.heap.size, 4, none⟩ = some (.int .i64 byy) := by rw [hw0]; simp [go_sem]
    have q5 : w0.cell? ⟨w.heap.size, 5, none⟩ = some (.int .i64 bw) := by rw [hw0]; simp [go_sem]
    have q6 : w0.cell? ⟨w.heap.size, 6, none⟩ = some (.int .i64 bh) := by rw [hw0]; simp [go_sem]
    have p0 : w0.cell? ⟨w.heap.size + 1, 0, none⟩ = some (.int .i64 x) := by rw [hw0]; simp [go_sem]
    have p1 : w0.cell? ⟨w.heap.size + 1, 1, none⟩ = some (.int .i64 y) := by rw [hw0]; simp [go_sem]
    rw [← hw0]
    clear hw0
    refine wp_region_held_drew (S := (fun W => (∀ b o, b < w0.heap.size → W.cell? ⟨b, o, none⟩ = w0.cell? ⟨b, o, none⟩) ∧ Ext w0 W)) (by kernel_rfl) (by first | with_reducible exact pr_start _ | exact pr_of (by (with_reducible (repeat' (first | exact Ext.refl _ | assumption | refine Ext.drew ?_ | refine Ext.drewN ?_ _ | refine Ext.alloc ?_ _ | refine Ext.setCell ?_ ?_ _ | refine Ext.trans ?_ (by assumption)))); all_goals (first | (simp; done) | (simp; omega)))) (fun hHeld => ?_)
    (((refine wpAnyH_take (i := 0) (oi := ?g1_o) (v := ?g1_v) ?g1_hi (by kernel_rfl) (by kernel_rfl) (by kernel_rfl) ?g1_hq ?g1_hy (by assumption) ?g1_gr; (case g1_hi => (simp only [List.getElem?_toArray, List.getElem?_cons_zero]; rfl)); (case g1_hq => exact fun _ _ _ h => h); (case g1_hy => (refine Or.inl ⟨by rfl, ?_⟩; intro w hSw; (try dsimp only at hSw); go_simp; try with_reducible rfl)); try simp only [Act.put, List.setIfInBounds_toArray, List.set_cons_zero, List.set_cons_succ])); ((refine wpAnyH_take (i := 1) (oi := ?g2_o) (v := ?g2_v) ?g2_hi (by kernel_rfl) (by kernel_rfl) (by kernel_rfl) ?g2_hq ?g2_hy (by assumption) ?g2_gr; (case g2_hi => (simp only [List.getElem?_toArray, List.getElem?_cons_succ, List.getElem?_cons_zero]; rfl)); (case g2_hq => exact fun _ _ _ h => h); (case g2_hy => (refine Or.inl ⟨by rfl, ?_⟩; intro w hSw; (try dsimp only at hSw); go_simp; try with_reducible rfl)); try simp only [Act.put, List.setIfInBounds_toArray, List.set_cons_zero, List.set_cons_succ])); ((refine wpAnyH_take (i := 2) (oi := ?g3_o) (v := ?g3_v) ?g3_hi (by kernel_rfl) (by kernel_rfl) (by kernel_rfl) ?g3_hq ?g3_hy (by assumption) ?g3_gr; (case g3_hi => (simp only [List.getElem?_toArray, List.getElem?_cons_succ, List.getElem?_cons_zero]; rfl)); (case g3_hq => exact fun _ _ _ h => h); (case g3_hy => (refine Or.inl ⟨by rfl, ?_⟩; intro w hSw; (try dsimp only at hSw); go_simp; try with_reducible rfl)); try simp only [Act.put, List.setIfInBounds_toArray, List.set_cons_zero, List.set_cons_succ])))
    (refine wpAnyH_ready (rs := [3]) (by kernel_rfl) (by simp) ?_; refine AllReadyH.cons (o := ?g4_o) ?g4_hi (fun K hK => ?_) AllReadyH.nil; (case g4_hi => (simp only [List.getElem?_toArray, List.getElem?_cons_succ, List.getElem?_cons_zero]; rfl)); go_simp; (go_at_call 148; refine (HG.out _).mono ?_; rintro e w1 ⟨rfl, hb1⟩); go_wp2_with fail; refine hK.out _ _ (pr_of (by (with_reducible (repeat' (first | exact Ext.refl _ | assumption | refine Ext.drew ?_ | refine Ext.drewN ?_ _ | refine Ext.alloc ?_ _ | refine Ext.setCell ?_ ?_ _ | refine Ext.trans ?_ (by assumption)))); all_goals (first | (simp; done) | (simp; omega)))) (fun hHeld => ?_); clear hK K; try simp only [Act.put, List.setIfInBounds_toArray, List.set_cons_zero, List.set_cons_succ])
    ((refine wpAnyH_take (i := 4) (oi := ?g5_o) (v := ?g5_v) ?g5_hi (by kernel_rfl) (by kernel_rfl) (by kernel_rfl) ?g5_hq ?g5_hy (by assumption) ?g5_gr; (case g5_hi => (simp only [List.getElem?_toArray, List.getElem?_cons_succ, List.getElem?_cons_zero]; rfl)); (case g5_hq => exact fun _ _ _ h => h); (case g5_hy => (refine Or.inl ⟨by rfl, ?_⟩; intro w hSw; (try dsimp only at hSw); go_simp; try with_reducible rfl)); try simp only [Act.put, List.setIfInBounds_toArray, List.set_cons_zero, List.set_cons_succ]))
    (((refine wpAnyH_take (i := 5) (oi := ?g6_o) (v := undef) ?g6_hi (by kernel_rfl) (by kernel_rfl) (by kernel_rfl) ?g6_hq ?g6_hy (by assumption) ?g6_gr; (case g6_hi => (simp only [List.getElem?_toArray, List.getElem?_cons_succ, List.getElem?_cons_zero]; rfl)); (case g6_hq => exact fun _ _ _ h => h); (case g6_hy => exact Or.inr ⟨by rfl, rfl⟩); try simp only [Act.put, List.setIfInBounds_toArray, List.set_cons_zero, List.set_cons_succ])); ((refine wpAnyH_take (i := 6) (oi := ?g7_o) (v := undef) ?g7_hi (by kernel_rfl) (by kernel_rfl) (by kernel_rfl) ?g7_hq ?g7_hy (by assumption) ?g7_gr; (case g7_hi => (simp only [List.getElem?_toArray, List.getElem?_cons_succ, List.getElem?_cons_zero]; rfl)); (case g7_hq => exact fun _ _ _ h => h); (case g7_hy => exact Or.inr ⟨by rfl, rfl⟩); try simp only [Act.put, List.setIfInBounds_toArray, List.set_cons_zero, List.set_cons_succ])); ((refine wpAnyH_take (i := 7) (oi := ?g8_o) (v := undef) ?g8_hi (by kernel_rfl) (by kernel_rfl) (by kernel_rfl) ?g8_hq ?g8_hy (by assumption) ?g8_gr; (case g8_hi => (simp only [List.getElem?_toArray, List.getElem?_cons_succ, List.getElem?_cons_zero]; rfl)); (case g8_hq => exact fun _ _ _ h => h); (case g8_hy => exact Or.inr ⟨by rfl, rfl⟩); try simp only [Act.put, List.setIfInBounds_toArray, List.set_cons_zero, List.set_cons_succ])); ((refine wpAnyH_take (i := 8) (oi := ?g9_o) (v := undef) ?g9_hi (by kernel_rfl) (by kernel_rfl) (by kernel_rfl) ?g9_hq ?g9_hy (by assumption) ?g9_gr; (case g9_hi => (simp only [List.getElem?_toArray, List.getElem?_cons_succ, List.getElem?_cons_zero]; rfl)); (case g9_hq => exact fun _ _ _ h => h); (case g9_hy => exact Or.inr ⟨by rfl, rfl⟩); try simp only [Act.put, List.setIfInBounds_toArray, List.set_cons_zero, List.set_cons_succ])); ((refine wpAnyH_take (i := 9) (oi := ?g10_o) (v := undef) ?g10_hi (by kernel_rfl) (by kernel_rfl) (by kernel_rfl) ?g10_hq ?g10_hy (by assumption) ?g10_gr; (case g10_hi => (simp only [List.getElem?_toArray, List.getElem?_cons_succ, List.getElem?_cons_zero]; rfl)); (case g10_hq => exact fun _ _ _ h => h); (case g10_hy => exact Or.inr ⟨by rfl, rfl⟩); try simp only [Act.put, List.setIfInBounds_toArray, List.set_cons_zero, List.set_cons_succ])); ((refine wpAnyH_take (i := 10) (oi := ?g11_o) (v := undef) ?g11_hi (by kernel_rfl) (by kernel_rfl) (by kernel_rfl) ?g11_hq ?g11_hy (by assumption) ?g11_gr; (case g11_hi => (simp only [List.getElem?_toArray, List.getElem?_cons_succ, List.getElem?_cons_zero]; rfl)); (case g11_hq => exact fun _ _ _ h => h); (case g11_hy => exact Or.inr ⟨by rfl, rfl⟩); try simp only [Act.put, List.setIfInBounds_toArray, List.set_cons_zero, List.set_cons_succ])); ((refine wpAnyH_take (i := 11) (oi := ?g12_o) (v := undef) ?g12_hi (by kernel_rfl) (by kernel_rfl) (by kernel_rfl) ?g12_hq ?g12_hy (by assumption) ?g12_gr; (case g12_hi => (simp only [List.getElem?_toArray, List.getElem?_cons_succ, List.getElem?_cons_zero]; rfl)); (case g12_hq => exact fun _ _ _ h => h); (case g12_hy => exact Or.inr ⟨by rfl, rfl⟩); try simp only [Act.put, List.setIfInBounds_toArray, List.set_cons_zero, List.set_cons_succ])); ((refine wpAnyH_take (i := 12) (oi := ?g13_o) (v := undef) ?g13_hi (by kernel_rfl) (by kernel_rfl) (by kernel_rfl) ?g13_hq ?g13_hy (by assumption) ?g13_gr; (case g13_hi => (simp only [List.getElem?_toArray, List.getElem?_cons_succ, List.getElem?_cons_zero]; rfl)); (case g13_hq => exact fun _ _ _ h => h); (case g13_hy => exact Or.inr ⟨by rfl, rfl⟩); try simp only [Act.put, List.setIfInBounds_toArray, List.set_cons_zero, List.set_cons_succ])); ((refine wpAnyH_take (i := 13) (oi := ?g14_o) (v := undef) ?g14_hi (by kernel_rfl) (by kernel_rfl) (by kernel_rfl) ?g14_hq ?g14_hy (by assumption) ?g14_gr; (case g14_hi => (simp only [List.getElem?_toArray, List.getElem?_cons_succ, List.getElem?_cons_zero]; rfl)); (case g14_hq => exact fun _ _ _ h => h); (case g14_hy => exact Or.inr ⟨by rfl, rfl⟩); try simp only [Act.put, List.setIfInBounds_toArray, List.set_cons_zero, List.set_cons_succ])))
    (((refine wpAnyH_take (i := 14) (oi := ?g15_o) (v := ?g15_v) ?g15_hi (by kernel_rfl) (by kernel_rfl) (by kernel_rfl) ?g15_hq ?g15_hy (by assumption) ?g15_gr; (case g15_hi => (simp only [List.getElem?_toArray, List.getElem?_cons_succ, List.getElem?_cons_zero]; rfl)); (case g15_hq => exact fun _ _ _ h => h); (case g15_hy => (refine Or.inl ⟨by rfl, ?_⟩; intro w hSw; (try dsimp only at hSw); go_simp; try with_reducible rfl)); try simp only [Act.put, List.setIfInBounds_toArray, List.set_cons_zero, List.set_cons_succ])); ((refine wpAnyH_take (i := 15) (oi := ?g16_o) (v := ?g16_v) ?g16_hi (by kernel_rfl) (by kernel_rfl) (by kernel_rfl) ?g16_hq ?g16_hy (by assumption) ?g16_gr; (case g16_hi => (simp only [List.getElem?_toArray, List.getElem?_cons_succ, List.getElem?_cons_zero]; rfl)); (case g16_hq => exact fun _ _ _ h => h); (case g16_hy => (refine Or.inl ⟨by rfl, ?_⟩; intro w hSw; (try dsimp only at hSw); go_simp; try with_reducible rfl)); try simp only [Act.put, List.setIfInBounds_toArray, List.set_cons_zero, List.set_cons_succ])))
    refine wpAnyH_done (by kernel_rfl) ?_ _
    have hx := hx0.trans hHeld.2
    go_wp2_with fail
    go_ret
    exact ⟨rfl, hx⟩
  · rw [hh] at HG
    obtain ⟨m1, m2, m3, m4⟩ := mayB_true.1 hm
    have ff := fitsR_true.1 hf
    have h9 := hasB_true.1 hh
    have h1 : 0 ≤ x := by omega
    have h2 : x < W := by omega
    have h3 : 0 ≤ y := by omega
    have h4 : y < H := by omega
    obtain ⟨b, off, rfl, hb, hc⟩ := cost_cell hr hl h1 h2 h3 h4
    have cb := costI_bd hu W (x, y)
    have ib := idx_bd h1 h2 h3 h4
    have i0 : 0 ≤ y * W + x := by omega
    have ib2 : y * W + x < (l.length : Int) := by omega
    have HA := hide (fun n w' => fAt_any W H (some ⟨b, off, none⟩) n c bx byy bw bh x y w' hm h1 h2 h3 h4)
    simp only [Bool.true_and]
    generalize costI l W (x, y) = v at *
    obtain ⟨n, hn⟩ : ∃ n, l.length = n := ⟨_, rfl⟩
    rw [hn] at ib2 ⊢
    clear hl hr hu hf hh h9 ff hm m1 m2 m3 m4 hn h1 h2 h3 h4 ib
    generalize y * W + x = k at *
    go_enter Try.func150, Try.ntmps150
    go_wp2_with fail
    obtain ⟨w0, hw0⟩ : ∃ w0, w0 = (w.alloc (.cells #[.int .i64 W, .int .i64 H, .slice (some ⟨b, off, none⟩) n c, .int .i64 bx, .int .i64 byy, .int .i64 bw, .int .i64 bh] 173)).alloc (.cells #[.int .i64 x, .int .i64 y] 28) := ⟨_, rfl⟩
    have hx0 : Ext w w0 := by rw [hw0]; exact (by (with_reducible (repeat' (first | exact Ext.refl _ | assumption | refine Ext.drew ?_ | refine Ext.drewN ?_ _ | refine Ext.alloc ?_ _ | refine Ext.setCell ?_ ?_ _ | refine Ext.trans ?_ (by assumption)))); all_goals (first | (simp; done) | (simp; omega)))
    have z0 : w.heap.size < w0.heap.size := by rw [hw0]; simp; omega
    have z1 : w.heap.size + 1 < w0.heap.size := by rw [hw0]; simp
    have q0 : w0.cell? ⟨w.heap.size, 0, none⟩ = some (.int .i64 W) := by rw [hw0]; simp [go_sem]
    have q1 : w0.cell? ⟨w.heap.size, 1, none⟩ = some (.int .i64 H) := by rw [hw0]; simp [go_sem]
    have q2 : w0.cell? ⟨w.heap.size, 2, none⟩ = some (.slice (some ⟨b, off, none⟩) n c) := by rw [hw0]; simp [go_sem]
    have q3 : w0.cell? ⟨w.heap.size, 3, none⟩ = some (.int .i64 bx) := by rw [hw0]; simp [go_sem]
    have q4 : w0.cell? ⟨w.heap.size, 4, none⟩ = some (.int .i64 byy) := by rw [hw0]; simp [go_sem]
    have q5 : w0.cell? ⟨w.heap.size, 5, none⟩ = some (.int .i64 bw) := by rw [hw0]; simp [go_sem]
    have q6 : w0.cell? ⟨w.heap.size, 6, none⟩ = some (.int .i64 bh) := by rw [hw0]; simp [go_sem]
    have p0 : w0.cell? ⟨w.heap.size + 1, 0, none⟩ = some (.int .i64 x) := by rw [hw0]; simp [go_sem]
    have p1 : w0.cell? ⟨w.heap.size + 1, 1, none⟩ = some (.int .i64 y) := by rw [hw0]; simp [go_sem]
    have hc0 := (hx0.cell (p := ⟨b, off + k.toNat, none⟩) hb).trans hc
    have hb0 : b < w0.heap.size := Nat.lt_of_lt_of_le hb hx0.size
    clear hc hb
    rw [← hw0]
    clear hw0
    refine wp_region_held_drew (S := (fun W => (∀ b o, b < w0.heap.size → W.cell? ⟨b, o, none⟩ = w0.cell? ⟨b, o, none⟩) ∧ Ext w0 W)) (by kernel_rfl) (by first | with_reducible exact pr_start _ | exact pr_of (by (with_reducible (repeat' (first | exact Ext.refl _ | assumption | refine Ext.drew ?_ | refine Ext.drewN ?_ _ | refine Ext.alloc ?_ _ | refine Ext.setCell ?_ ?_ _ | refine Ext.trans ?_ (by assumption)))); all_goals (first | (simp; done) | (simp; omega)))) (fun hHeld => ?_)
    (((refine wpAnyH_take (i := 0) (oi := ?g17_o) (v := ?g17_v) ?g17_hi (by kernel_rfl) (by kernel_rfl) (by kernel_rfl) ?g17_hq ?g17_hy (by assumption) ?g17_gr; (case g17_hi => (simp only [List.getElem?_toArray, List.getElem?_cons_zero]; rfl)); (case g17_hq => exact fun _ _ _ h => h); (case g17_hy => (refine Or.inl ⟨by rfl, ?_⟩; intro w hSw; (try dsimp only at hSw); go_simp; try with_reducible rfl)); try simp only [Act.put, List.setIfInBounds_toArray, List.set_cons_zero, List.set_cons_succ])); ((refine wpAnyH_take (i := 1) (oi := ?g18_o) (v := ?g18_v) ?g18_hi (by kernel_rfl) (by kernel_rfl) (by kernel_rfl) ?g18_hq ?g18_hy (by assumption) ?g18_gr; (case g18_hi => (simp only [List.getElem?_toArray, List.getElem?_cons_succ, List.getElem?_cons_zero]; rfl)); (case g18_hq => exact fun _ _ _ h => h); (case g18_hy => (refine Or.inl ⟨by rfl, ?_⟩; intro w hSw; (try dsimp only at hSw); go_simp; try with_reducible rfl)); try simp only [Act.put, List.setIfInBounds_toArray, List.set_cons_zero, List.set_cons_succ])); ((refine wpAnyH_take (i := 2) (oi := ?g19_o) (v := ?g19_v) ?g19_hi (by kernel_rfl) (by kernel_rfl) (by kernel_rfl) ?g19_hq ?g19_hy (by assumption) ?g19_gr; (case g19_hi => (simp only [List.getElem?_toArray, List.getElem?_cons_succ, List.getElem?_cons_zero]; rfl)); (case g19_hq => exact fun _ _ _ h => h); (case g19_hy => (refine Or.inl ⟨by rfl, ?_⟩; intro w hSw; (try dsimp only at hSw); go_simp; try with_reducible rfl)); try simp only [Act.put, List.setIfInBounds_toArray, List.set_cons_zero, List.set_cons_succ])))
    (refine wpAnyH_ready (rs := [3]) (by kernel_rfl) (by simp) ?_; refine AllReadyH.cons (o := ?g20_o) ?g20_hi (fun K hK => ?_) AllReadyH.nil; (case g20_hi => (simp only [List.getElem?_toArray, List.getElem?_cons_succ, List.getElem?_cons_zero]; rfl)); go_simp; (go_at_call 148; refine (HG.out _).mono ?_; rintro e w1 ⟨rfl, hb1⟩); go_wp2_with fail; refine hK.out _ _ (pr_of (by (with_reducible (repeat' (first | exact Ext.refl _ | assumption | refine Ext.drew ?_ | refine Ext.drewN ?_ _ | refine Ext.alloc ?_ _ | refine Ext.setCell ?_ ?_ _ | refine Ext.trans ?_ (by assumption)))); all_goals (first | (simp; done) | (simp; omega)))) (fun hHeld => ?_); clear hK K; try simp only [Act.put, List.setIfInBounds_toArray, List.set_cons_zero, List.set_cons_succ])
    (((refine wpAnyH_take (i := 4) (oi := ?g21_o) (v := ?g21_v) ?g21_hi (by kernel_rfl) (by kernel_rfl) (by kernel_rfl) ?g21_hq ?g21_hy (by assumption) ?g21_gr; (case g21_hi => (simp only [List.getElem?_toArray, List.getElem?_cons_succ, List.getElem?_cons_zero]; rfl)); (case g21_hq => exact fun _ _ _ h => h); (case g21_hy => (refine Or.inl ⟨by rfl, ?_⟩; intro w hSw; (try dsimp only at hSw); go_simp; try with_reducible rfl)); try simp only [Act.put, List.setIfInBounds_toArray, List.set_cons_zero, List.set_cons_succ])); ((refine wpAnyH_take (i := 5) (oi := ?g22_o) (v := ?g22_v) ?g22_hi (by kernel_rfl) (by kernel_rfl) (by kernel_rfl) ?g22_hq ?g22_hy (by assumption) ?g22_gr; (case g22_hi => (simp only [List.getElem?_toArray, List.getElem?_cons_succ, List.getElem?_cons_zero]; rfl)); (case g22_hq => exact fun _ _ _ h => h); (case g22_hy => (refine Or.inl ⟨by rfl, ?_⟩; intro w hSw; (try dsimp only at hSw); go_simp; try with_reducible rfl)); try simp only [Act.put, List.setIfInBounds_toArray, List.set_cons_zero, List.set_cons_succ])); ((refine wpAnyH_take (i := 6) (oi := ?g23_o) (v := ?g23_v) ?g23_hi (by kernel_rfl) (by kernel_rfl) (by kernel_rfl) ?g23_hq ?g23_hy (by assumption) ?g23_gr; (case g23_hi => (simp only [List.getElem?_toArray, List.getElem?_cons_succ, List.getElem?_cons_zero]; rfl)); (case g23_hq => exact fun _ _ _ h => h); (case g23_hy => (refine Or.inl ⟨by rfl, ?_⟩; intro w hSw; (try dsimp only at hSw); go_simp; try with_reducible rfl)); try simp only [Act.put, List.setIfInBounds_toArray, List.set_cons_zero, List.set_cons_succ])); ((refine wpAnyH_take (i := 7) (oi := ?g24_o) (v := ?g24_v) ?g24_hi (by kernel_rfl) (by kernel_rfl) (by kernel_rfl) ?g24_hq ?g24_hy (by assumption) ?g24_gr; (case g24_hi => (simp only [List.getElem?_toArray, List.getElem?_cons_succ, List.getElem?_cons_zero]; rfl)); (case g24_hq => exact fun _ _ _ h => h); (case g24_hy => (refine Or.inl ⟨by rfl, ?_⟩; intro w hSw; (try dsimp only at hSw); go_simp; try with_reducible rfl)); try simp only [Act.put, List.setIfInBounds_toArray, List.set_cons_zero, List.set_cons_succ])); ((refine wpAnyH_take (i := 8) (oi := ?g25_o) (v := ?g25_v) ?g25_hi (by kernel_rfl) (by kernel_rfl) (by kernel_rfl) ?g25_hq ?g25_hy (by assumption) ?g25_gr; (case g25_hi => (simp only [List.getElem?_toArray, List.getElem?_cons_succ, List.getElem?_cons_zero]; rfl)); (case g25_hq => exact fun _ _ _ h => h); (case g25_hy => (refine Or.inl ⟨by rfl, ?_⟩; intro w hSw; (try dsimp only at hSw); go_simp; try with_reducible rfl)); try simp only [Act.put, List.setIfInBounds_toArray, List.set_cons_zero, List.set_cons_succ])); ((refine wpAnyH_take (i := 9) (oi := ?g26_o) (v := ?g26_v) ?g26_hi (by kernel_rfl) (by kernel_rfl) (by kernel_rfl) ?g26_hq ?g26_hy (by assumption) ?g26_gr; (case g26_hi => (simp only [List.getElem?_toArray, List.getElem?_cons_succ, List.getElem?_cons_zero]; rfl)); (case g26_hq => exact fun _ _ _ h => h); (case g26_hy => (refine Or.inl ⟨by rfl, ?_⟩; intro w hSw; (try dsimp only at hSw); go_simp; try with_reducible rfl)); try simp only [Act.put, List.setIfInBounds_toArray, List.set_cons_zero, List.set_cons_succ])))
    (refine wpAnyH_ready (rs := [10]) (by kernel_rfl) (by simp) ?_; refine AllReadyH.cons (o := ?g27_o) ?g27_hi (fun K hK => ?_) AllReadyH.nil; (case g27_hi => (simp only [List.getElem?_toArray, List.getElem?_cons_succ, List.getElem?_cons_zero]; rfl)); go_simp; (go_at_call 151; refine (HA.out _ _).mono ?_; rintro e w2 ⟨rfl, hb2⟩); go_wp2_with fail; refine hK.out _ _ (pr_of (by (with_reducible (repeat' (first | exact Ext.refl _ | assumption | refine Ext.drew ?_ | refine Ext.drewN ?_ _ | refine Ext.alloc ?_ _ | refine Ext.setCell ?_ ?_ _ | refine Ext.trans ?_ (by assumption)))); all_goals (first | (simp; done) | (simp; omega)))) (fun hHeld => ?_); clear hK K; try simp only [Act.put, List.setIfInBounds_toArray, List.set_cons_zero, List.set_cons_succ])
    (((refine wpAnyH_take (i := 11) (oi := ?g28_o) (v := ?g28_v) ?g28_hi (by kernel_rfl) (by kernel_rfl) (by kernel_rfl) ?g28_hq ?g28_hy (by assumption) ?g28_gr; (case g28_hi => (simp only [List.getElem?_toArray, List.getElem?_cons_succ, List.getElem?_cons_zero]; rfl)); (case g28_hq => exact fun _ _ _ h => h); (case g28_hy => (refine Or.inl ⟨by rfl, ?_⟩; intro w hSw; (try dsimp only at hSw); go_simp; try with_reducible rfl)); try simp only [Act.put, List.setIfInBounds_toArray, List.set_cons_zero, List.set_cons_succ])); ((refine wpAnyH_take (i := 12) (oi := ?g29_o) (v := ?g29_v) ?g29_hi (by kernel_rfl) (by kernel_rfl) (by kernel_rfl) ?g29_hq ?g29_hy (by assumption) ?g29_gr; (case g29_hi => (simp only [List.getElem?_toArray, List.getElem?_cons_succ, List.getElem?_cons_zero]; rfl)); (case g29_hq => exact fun _ _ _ h => h); (case g29_hy => (refine Or.inl ⟨by rfl, ?_⟩; intro w hSw; (try dsimp only at hSw); go_simp; try with_reducible rfl)); try simp only [Act.put, List.setIfInBounds_toArray, List.set_cons_zero, List.set_cons_succ])); ((refine wpAnyH_take (i := 13) (oi := ?g30_o) (v := ?g30_v) ?g30_hi (by kernel_rfl) (by kernel_rfl) (by kernel_rfl) ?g30_hq ?g30_hy (by assumption) ?g30_gr; (case g30_hi => (simp only [List.getElem?_toArray, List.getElem?_cons_succ, List.getElem?_cons_zero]; rfl)); (case g30_hq => exact fun _ _ _ h => h); (case g30_hy => (refine Or.inl ⟨by rfl, ?_⟩; intro w hSw; (try dsimp only at hSw); go_simp; try with_reducible rfl)); try simp only [Act.put, List.setIfInBounds_toArray, List.set_cons_zero, List.set_cons_succ])); ((refine wpAnyH_take (i := 14) (oi := ?g31_o) (v := ?g31_v) ?g31_hi (by kernel_rfl) (by kernel_rfl) (by kernel_rfl) ?g31_hq ?g31_hy (by assumption) ?g31_gr; (case g31_hi => (simp only [List.getElem?_toArray, List.getElem?_cons_succ, List.getElem?_cons_zero]; rfl)); (case g31_hq => exact fun _ _ _ h => h); (case g31_hy => (refine Or.inl ⟨by rfl, ?_⟩; intro w hSw; (try dsimp only at hSw); go_simp; try with_reducible rfl)); try simp only [Act.put, List.setIfInBounds_toArray, List.set_cons_zero, List.set_cons_succ])); ((refine wpAnyH_take (i := 15) (oi := ?g32_o) (v := ?g32_v) ?g32_hi (by kernel_rfl) (by kernel_rfl) (by kernel_rfl) ?g32_hq ?g32_hy (by assumption) ?g32_gr; (case g32_hi => (simp only [List.getElem?_toArray, List.getElem?_cons_succ, List.getElem?_cons_zero]; rfl)); (case g32_hq => exact fun _ _ _ h => h); (case g32_hy => (refine Or.inl ⟨by rfl, ?_⟩; intro w hSw; (try dsimp only at hSw); go_simp; try with_reducible rfl)); try simp only [Act.put, List.setIfInBounds_toArray, List.set_cons_zero, List.set_cons_succ])))
    refine wpAnyH_done (by kernel_rfl) ?_ _
    have hx := hx0.trans hHeld.2
    go_wp2_with fail
    go_ret
    exact ⟨by simp, hx⟩
end Go.Proofs.Ytifbmapianddcaa
