/- The example of chapter 10. -/
import Derived.Test.YtifbmapianddcaaStarS
import Derived.Test.YtifbmapianddcaaStarM0
set_option linter.all false
set_option linter.unusedVariables false
set_option linter.unusedSimpArgs false
namespace Go.Proofs.Ytifbmapianddcaa
open Go.RowKit

def awA : List Int := [1, 1, 1, 1, 1, 1, 1, 1, 1]
def awB : List Int := [1, 0, 1, 1, 1, 1, 1, 1, 1]
theorem awA_land : LandP 3 3 awA 0 0 3 3 := ⟨by decide, by decide, (by intro x hx; simp [awA] at hx; omega), by decide⟩
theorem awB_land : LandP 3 3 awB 0 0 3 3 := ⟨by decide, by decide, (by intro x hx; simp [awB] at hx; omega), by decide⟩
theorem aw_lt10 (s : Nat) (hs : s < 9) : ∀ u, (start0 s).st u = 1 → u < 9 := fun u hu => by
  have : updN (fun _ => 0) s 1 u = 1 := hu
  unfold updN at this
  split at this
  · omega
  · cases this
theorem aw_adjA : ∀ v m, m ∈ (mapNet awA_land).adj v → m < (mapNet awA_land).n := fun _ m h => (mapNet awA_land).lt m (adj_op awA_land h)
theorem aw_adjB : ∀ v m, m ∈ (mapNet awB_land).adj v → m < (mapNet awB_land).n := fun _ m h => (mapNet awB_land).lt m (adj_op awB_land h)
theorem aw_runA : ARun (mapNet awA_land) 3 (hT 3 2) 2 9 (start0 0) [0, 1, 2] 2 3 0 := runF_ok (k := 20) aw_adjA (aw_lt10 0 (by omega)) (by decide +kernel)
theorem aw_runA2 : ARun (mapNet awA_land) 3 (hT 3 2) 2 2 (start0 0) [] 0 2 23 := runF_ok (k := 20) aw_adjA (aw_lt10 0 (by omega)) (by decide +kernel)
theorem aw_runB : ARun (mapNet awB_land) 3 (hT 3 2) 2 9 (start0 0) [0, 3, 4, 5, 2] 4 5 0 := runF_ok (k := 20) aw_adjB (aw_lt10 0 (by omega)) (by decide +kernel)
theorem aw_srA : Srch 3 3 awA 0 0 2 0 9 [0, 1, 2] 2 3 0 := .inr ⟨by decide, awA_land, .inl ⟨by decide +kernel, by decide +kernel, aw_runA⟩⟩
theorem aw_srA2 : Srch 3 3 awA 0 0 2 0 2 [] 0 2 23 := .inr ⟨by decide, awA_land, .inl ⟨by decide +kernel, by decide +kernel, aw_runA2⟩⟩
theorem aw_srB : Srch 3 3 awB 0 0 2 0 9 [0, 3, 4, 5, 2] 4 5 0 := .inr ⟨by decide, awB_land, .inl ⟨by decide +kernel, by decide +kernel, aw_runB⟩⟩
theorem row9 {w : World} {b : Nat} {a0 a1 a2 a3 a4 a5 a6 a7 a8 : Int} (h : Blk w b 46 #[.int .u16 a0, .int .u16 a1, .int .u16 a2, .int .u16 a3, .int .u16 a4, .int .u16 a5, .int .u16 a6, .int .u16 a7, .int .u16 a8]) : Row16 w (some ⟨b, 0, none⟩) [a0, a1, a2, a3, a4, a5, a6, a7, a8] := fun _ => by
  refine ⟨b, 0, rfl, h.lt, fun k hk => ?_⟩
  have hk6 : k < 9 := hk
  obtain rfl | rfl | rfl | rfl | rfl | rfl | rfl | rfl | rfl : k = 0 ∨ k = 1 ∨ k = 2 ∨ k = 3 ∨ k = 4 ∨ k = 5 ∨ k = 6 ∨ k = 7 ∨ k = 8 := by omega
  · exact h.at 0 rfl
  · exact h.at 1 rfl
  · exact h.at 2 rfl
  · exact h.at 3 rfl
  · exact h.at 4 rfl
  · exact h.at 5 rfl
  · exact h.at 6 rfl
  · exact h.at 7 rfl
  · exact h.at 8 rfl

set_option maxRecDepth 100000 in
set_option maxHeartbeats 1000000 in
theorem awake10_any (w : World) : Calls Try.prog 16 #[] w fun e w' => e = .returned (.bool true) ∧ Ext w w' := by
  have HA := hide (fun (w' : World) (a : Option Addr) (b : Int) (hr : Row16 w' a awA) => sFind_uni (w := w') 3 3 a (l := awA) 9 0 0 2 0 b hr awA_land.u16)
  have HB := hide (fun (w' : World) (a : Option Addr) (b : Int) (hr : Row16 w' a awB) => sFind_uni (w := w') 3 3 a (l := awB) 9 0 0 2 0 b hr awB_land.u16)
  go_enter Try.func16, Try.ntmps16
  go_wp2_with fail
  obtain ⟨w0, hw0⟩ : ∃ w0, w0 = (w.alloc (.cells #[.int .u16 1, .int .u16 1, .int .u16 1, .int .u16 1, .int .u16 1, .int .u16 1, .int .u16 1, .int .u16 1, .int .u16 1] 46)).alloc (.cells #[.int .i64 3, .int .i64 3, .slice (some ⟨w.heap.size, 0, none⟩) 9 9] 26) := ⟨_, rfl⟩
  have hx0 : Ext w w0 := by rw [hw0]; exact (by (with_reducible (repeat' (first | exact Ext.refl _ | assumption | refine Ext.drew ?_ | refine Ext.drewN ?_ _ | refine Ext.alloc ?_ _ | refine Ext.setCell ?_ ?_ _ | refine Ext.trans ?_ (by assumption)))); all_goals (first | (simp; done) | (simp; omega)))
  have R0 := hide (show Blk w0 w.heap.size 46 #[.int .u16 1, .int .u16 1, .int .u16 1, .int .u16 1, .int .u16 1, .int .u16 1, .int .u16 1, .int .u16 1, .int .u16 1] by rw [hw0]; exact (Blk.new_ rfl).over)
  have F0 := hide (show Blk w0 (w.heap.size + 1) 26 #[.int .i64 3, .int .i64 3, .slice (some ⟨w.heap.size, 0, none⟩) 9 9] by rw [hw0]; exact Blk.new_ (by simp))
  rw [← hw0]
  clear hw0
  refine (HA.out w0 _ _ (row9 R0.out)).mono ?_
  rintro e w1 ⟨hx1, p1, c1, k1, e1, v1, hs1, rfl, ho1⟩
  obtain ⟨rfl, rfl, rfl, rfl⟩ := hs1.one aw_srA
  obtain ⟨a1, q1, hv1⟩ : ∃ a q, v1 = .slice a 3 q := ho1.slice
  subst hv1
  have R1 := hide (Blk.ext R0.out hx1)
  have F1 := hide (Blk.ext F0.out hx1)
  have HX1 := hide (hx0.trans hx1)
  have j0 := F1.out.at 0 rfl; have j1 := F1.out.at 1 rfl; have j2 := F1.out.at 2 rfl; have jz := F1.out.lt
  clear hs1 ho1 R0 F0 hx0 hx1
  go_wp2_with fail
  obtain ⟨w2, hw2⟩ : ∃ w2, w2 = w1.alloc (.cells #[.slice a1 3 q1, .int .u64 2, .int .i64 3] 40) := ⟨_, rfl⟩
  have hx2 : Ext w1 w2 := by rw [hw2]; exact (by (with_reducible (repeat' (first | exact Ext.refl _ | assumption | refine Ext.drew ?_ | refine Ext.drewN ?_ _ | refine Ext.alloc ?_ _ | refine Ext.setCell ?_ ?_ _ | refine Ext.trans ?_ (by assumption)))); all_goals (first | (simp; done) | (simp; omega)))
  have A2 := hide (show Blk w2 w1.heap.size 40 #[.slice a1 3 q1, .int .u64 2, .int .i64 3] by rw [hw2]; exact Blk.new_ rfl)
  rw [← hw2]
  clear hw2 j0 j1 j2 jz
  refine (HA.out w2 _ _ (row9 (Blk.ext R1.out hx2))).mono ?_
  rintro e w3 ⟨hx3, p2, c2, k2, e2, v2, hs2, rfl, ho2⟩
  obtain ⟨rfl, rfl, rfl, rfl⟩ := hs2.one aw_srA2
  obtain ⟨a2, q2, hv2⟩ : ∃ a q, v2 = .slice a 0 q := ho2.slice
  subst hv2
  have R3 := hide (Blk.ext R1.out (hx2.trans hx3))
  have F3 := hide (Blk.ext F1.out (hx2.trans hx3))
  have A3 := hide (Blk.ext A2.out hx3)
  have hz0 : w.heap.size + 1 < w1.heap.size := F1.out.lt
  have HX3 := hide (HX1.out.trans (hx2.trans hx3))
  have j0 := F3.out.at 0 rfl; have j1 := F3.out.at 1 rfl; have j2 := F3.out.at 2 rfl; have jz := F3.out.lt
  have r0 := R3.out.at 0 rfl; have r1 := R3.out.at 1 rfl; have r2 := R3.out.at 2 rfl; have r3 := R3.out.at 3 rfl; have r4 := R3.out.at 4 rfl; have r5 := R3.out.at 5 rfl; have r6 := R3.out.at 6 rfl; have r7 := R3.out.at 7 rfl; have r8 := R3.out.at 8 rfl; have rz := R3.out.lt
  have rf := R3.out.frozen 1
  clear hs2 ho2 R1 F1 A2 hx2 hx3 HX1
  go_wp2_with fail
  obtain ⟨w4, hw4⟩ : ∃ w4, w4 = (w3.setCell ⟨w.heap.size, 1, none⟩ (.int .u16 0)).alloc (.cells #[.slice a2 0 q2, .int .u64 0, .int .i64 2] 40) := ⟨_, rfl⟩
  have t4 : Touch (fun k => k = w.heap.size) w3 w4 := by rw [hw4]; exact (Touch.setCell (S := fun k => k = w.heap.size) (p := ⟨w.heap.size, 1, none⟩) (Touch.refl _ w3) (.inl rfl) _).alloc _
  have R4 := hide (show Blk w4 w.heap.size 46 #[.int .u16 1, .int .u16 0, .int .u16 1, .int .u16 1, .int .u16 1, .int .u16 1, .int .u16 1, .int .u16 1, .int .u16 1] by rw [hw4]; exact Blk.over (Blk.set_ R3.out 1 _))
  have hz1 := HX3.out.size
  have hz2 := A3.out.lt
  have F4 := hide (F3.out.touch t4 (by omega))
  have A4 := hide (A3.out.touch t4 (by omega))
  have C4 := hide (show Blk w4 w3.heap.size 40 #[.slice a2 0 q2, .int .u64 0, .int .i64 2] by rw [hw4]; exact Blk.new_ (by simp))
  have hx4 : Ext w w4 := by rw [hw4]; exact (HX3.out.setCell (p := ⟨w.heap.size, 1, none⟩) (Nat.le_refl _) _).alloc _
  have HX4 := hide hx4
  rw [← hw4]
  clear hw4 t4 j0 j1 j2 jz r0 r1 r2 r3 r4 r5 r6 r7 r8 rz rf HX3 hx4 R3 F3 A3
  refine (HB.out w4 _ _ (row9 R4.out)).mono ?_
  rintro e w5 ⟨hx5, p3, c3, k3, e3, v3, hs3, rfl, ho3⟩
  obtain ⟨rfl, rfl, rfl, rfl⟩ := hs3.one aw_srB
  obtain ⟨a3, q3, hv3⟩ : ∃ a q, v3 = .slice a 5 q := ho3.slice
  subst hv3
  have A5 := hide (Blk.ext A4.out hx5)
  have C5 := hide (Blk.ext C4.out hx5)
  have HX5 := hide (HX4.out.trans hx5)
  have hmap : [0, 3, 4, 5, 2].map (cellV 3) = [(0, 0), (0, 1), (1, 1), (2, 1), (2, 0)] := by decide
  have hrd := ho3.reads
  rw [hmap] at hrd
  have O5 := hide hrd
  have u0 := A5.out.at 0 rfl; have u1 := A5.out.at 1 rfl; have u2 := A5.out.at 2 rfl; have uz := A5.out.lt
  have s0 := C5.out.at 0 rfl; have s1 := C5.out.at 1 rfl; have s2 := C5.out.at 2 rfl; have sz := C5.out.lt
  clear hs3 ho3 hmap hrd R4 F4 A4 C4 hx5 HX4
  go_wp2_with fail
  refine (cells10_any (l := [(0, 0), (0, 1), (1, 1), (2, 1), (2, 0)]) (by decide) ?_ ?_).mono ?_
  · exact O5.out.ext (by (with_reducible (repeat' (first | exact Ext.refl _ | assumption | refine Ext.drew ?_ | refine Ext.drewN ?_ _ | refine Ext.alloc ?_ _ | refine Ext.setCell ?_ ?_ _ | refine Ext.trans ?_ (by assumption)))); all_goals (first | (simp; done) | (simp; omega)))
  · exact reads_lit cellE _ _ _ _ rfl _ _ _ (by simp) rfl
  rintro e w6 ⟨rfl, hx6⟩
  have hx56 : Ext w5 w6 := (by (with_reducible (repeat' (first | exact Ext.refl _ | assumption | refine Ext.drew ?_ | refine Ext.drewN ?_ _ | refine Ext.alloc ?_ _ | refine Ext.setCell ?_ ?_ _ | refine Ext.trans ?_ (by assumption)))); all_goals (first | (simp; done) | (simp; omega)))
  clear hx6
  go_wp2
  go_ret
  exact ⟨rfl, HX5.out.trans hx56⟩

end Go.Proofs.Ytifbmapianddcaa
