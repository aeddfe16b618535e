/- Walk of the flood's beside. -/
import Derived.Test.YtifbmapianddcaaFloodA
import Derived.Test.YtifbmapianddcaaPartB
set_option linter.all false
set_option linter.unusedVariables false
set_option linter.unusedSimpArgs false
namespace Go.Proofs.Ytifbmapianddcaa
open Go.RowKit

theorem T_cells : ElemT Try.prog 37 28 (.agg #[.int .i64 0, .int .i64 0]) 2 16 := ⟨Try.underlying37, by kernel_rfl, rfl, by decide⟩

def dirX (n : Nat) : Int := match n with | 1 => 1 | 3 => -1 | _ => 0
def dirY (n : Nat) : Int := match n with | 0 => -1 | 2 => 1 | _ => 0
theorem dir_bd (n : Nat) : -1 ≤ dirX n ∧ dirX n ≤ 1 ∧ -1 ≤ dirY n ∧ dirY n ≤ 1 := by
  unfold dirX dirY
  split <;> split <;> omega

/-- The open cells of the first k directions. -/
def nbC (op : Int → Int → Bool) (x y : Int) : Nat → List Cell
  | 0 => []
  | k + 1 => nbC op x y k ++ if op (x + dirX k) (y + dirY k) = true then [(x + dirX k, y + dirY k)] else []
theorem nbC_len (op : Int → Int → Bool) (x y : Int) : ∀ k, (nbC op x y k).length ≤ k
  | 0 => Nat.le_refl _
  | k + 1 => by
    have := nbC_len op x y k
    unfold nbC
    split <;> simp <;> omega

set_option maxRecDepth 100000 in
set_option maxHeartbeats 1000000 in
theorem fBeside_any {w : World} {W H : Int} {a : Option Addr} {l : List Int} {bx byy bw bh : Int} (L : LandAt w W H a l bx byy bw bh) (c : Nat) (x y : Int) (hx1 : -1 ≤ x) (hx2 : x ≤ 1000) (hy1 : -1 ≤ y) (hy2 : y ≤ 1000) :
    Calls Try.prog 153 #[.agg #[.int .i64 W, .int .i64 H, .slice a l.length c, .int .i64 bx, .int .i64 byy, .int .i64 bw, .int .i64 bh], .agg #[.int .i64 x, .int .i64 y]] w fun e w' => ∃ v, e = .returned v ∧ Ext w w' ∧ Own cellE w' w.heap.size 28 v (nbC (openB l W bx byy bw bh) x y 4) := by
  have HL := hide L
  obtain ⟨n, hn⟩ : ∃ n, l.length = n := ⟨_, rfl⟩
  have HOP := hide (fun (w' : World) (hx : Ext w w') (k : Nat) => fOpen_any (L.ext hx) c (x + dirX k) (y + dirY k))
  rw [hn] at HOP ⊢
  generalize openB l W bx byy bw bh = op at *
  clear L HL hn
  go_enter Try.func153, Try.ntmps153
  go_wp2_with fail
  obtain ⟨w0, hw0⟩ : ∃ w0, w0 = ((w.alloc (.cells #[.int .i64 W, .int .i64 H, .slice a n c, .int .i64 bx, .int .i64 byy, .int .i64 bw, .int .i64 bh] 173)).alloc (.cells #[.int .i64 x, .int .i64 y] 28)).alloc (.cells #[.int .i64 0, .int .i64 (-1), .int .i64 1, .int .i64 0, .int .i64 0, .int .i64 1, .int .i64 (-1), .int .i64 0] 28) := ⟨_, rfl⟩
  have hx0 : Ext w w0 := by rw [hw0]; exact (by (with_reducible (repeat' (first | exact Ext.refl _ | assumption | refine Ext.drew ?_ | refine Ext.drewN ?_ _ | refine Ext.alloc ?_ _ | refine Ext.setCell ?_ ?_ _ | refine Ext.trans ?_ (by assumption)))); all_goals (first | (simp; done) | (simp; omega)))
  have z0 : w0.heap.size = w.heap.size + 3 := by rw [hw0]; simp
  have q0 : w0.cell? ⟨w.heap.size, 0, none⟩ = some (.int .i64 W) := by rw [hw0]; simp [go_sem]
  have q1 : w0.cell? ⟨w.heap.size, 1, none⟩ = some (.int .i64 H) := by rw [hw0]; simp [go_sem]
  have q2 : w0.cell? ⟨w.heap.size, 2, none⟩ = some (.slice a n c) := by rw [hw0]; simp [go_sem]
  have q3 : w0.cell? ⟨w.heap.size, 3, none⟩ = some (.int .i64 bx) := by rw [hw0]; simp [go_sem]
  have q4 : w0.cell? ⟨w.heap.size, 4, none⟩ = some (.int .i64 byy) := by rw [hw0]; simp [go_sem]
  have q5 : w0.cell? ⟨w.heap.size, 5, none⟩ = some (.int .i64 bw) := by rw [hw0]; simp [go_sem]
  have q6 : w0.cell? ⟨w.heap.size, 6, none⟩ = some (.int .i64 bh) := by rw [hw0]; simp [go_sem]
  have p0 : w0.cell? ⟨w.heap.size + 1, 0, none⟩ = some (.int .i64 x) := by rw [hw0]; simp [go_sem]
  have p1 : w0.cell? ⟨w.heap.size + 1, 1, none⟩ = some (.int .i64 y) := by rw [hw0]; simp [go_sem]
  have hd : ∀ k, k < 4 → w0.cell? ⟨w.heap.size + 2, k * 2, none⟩ = some (.int .i64 (dirX k)) ∧ w0.cell? ⟨w.heap.size + 2, k * 2 + 1, none⟩ = some (.int .i64 (dirY k)) := by
    intro k hk
    rw [hw0]
    obtain rfl | rfl | rfl | rfl : k = 0 ∨ k = 1 ∨ k = 2 ∨ k = 3 := by omega
    all_goals (constructor <;> simp [go_sem, dirX, dirY])
  have HD := hide hd
  rw [← hw0]
  clear hw0 hd
  go_loopw [5, 15] (fun out i wr => ∃ k : Nat, k ≤ 4 ∧ i = .int .i64 k ∧ Own cellE wr (w.heap.size + 3) 28 out (nbC op x y k) ∧ Below (w.heap.size + 3) w0 wr) (fun _ i _ => 4 - (intOf i).toNat)
  case atStart => exact ⟨0, Nat.zero_le _, rfl, Own.nil _ _ _ _, Below.refl _ _⟩
  case round =>
    obtain ⟨k, hk4, rfl, hown, hbel⟩ := hrel
    have HO := hide hown
    have HB := hide hbel
    have hz := hbel.size
    have hxr : Ext w wr := hx0.of_below hbel (by omega)
    have q0' := (hbel.cell (p := ⟨w.heap.size, 0, none⟩) (show w.heap.size < w.heap.size + 3 by omega)).trans q0
    have q1' := (hbel.cell (p := ⟨w.heap.size, 1, none⟩) (show w.heap.size < w.heap.size + 3 by omega)).trans q1
    have q2' := (hbel.cell (p := ⟨w.heap.size, 2, none⟩) (show w.heap.size < w.heap.size + 3 by omega)).trans q2
    have q3' := (hbel.cell (p := ⟨w.heap.size, 3, none⟩) (show w.heap.size < w.heap.size + 3 by omega)).trans q3
    have q4' := (hbel.cell (p := ⟨w.heap.size, 4, none⟩) (show w.heap.size < w.heap.size + 3 by omega)).trans q4
    have q5' := (hbel.cell (p := ⟨w.heap.size, 5, none⟩) (show w.heap.size < w.heap.size + 3 by omega)).trans q5
    have q6' := (hbel.cell (p := ⟨w.heap.size, 6, none⟩) (show w.heap.size < w.heap.size + 3 by omega)).trans q6
    have p0' := (hbel.cell (p := ⟨w.heap.size + 1, 0, none⟩) (show w.heap.size + 1 < w.heap.size + 3 by omega)).trans p0
    have p1' := (hbel.cell (p := ⟨w.heap.size + 1, 1, none⟩) (show w.heap.size + 1 < w.heap.size + 3 by omega)).trans p1
    have zr : w.heap.size + 2 < wr.heap.size := by omega
    have zr1 : w.heap.size + 1 < wr.heap.size := by omega
    have zr0 : w.heap.size < wr.heap.size := by omega
    have zr3 : w.heap.size + 3 ≤ wr.heap.size := by omega
    have hlen := nbC_len op x y k
    have HSU := hide (show nbC op x y (k + 1) = nbC op x y k ++ if op (x + dirX k) (y + dirY k) = true then [(x + dirX k, y + dirY k)] else [] from rfl)
    have HX := hide hxr
    clear q0 q1 q2 q3 q4 q5 q6 p0 p1 hown hbel
    by_cases hlt : k < 4
    · have d0 := (HB.out.cell (p := ⟨w.heap.size + 2, k * 2, none⟩) (show w.heap.size + 2 < w.heap.size + 3 by omega)).trans (HD.out k hlt).1
      have d1 := (HB.out.cell (p := ⟨w.heap.size + 2, k * 2 + 1, none⟩) (show w.heap.size + 2 < w.heap.size + 3 by omega)).trans (HD.out k hlt).2
      have hdb := dir_bd k
      have k1 : IntKind.i64.wrap (x + dirX k) = x + dirX k := IntWalk.i64_in _ (by omega)
      have k2 : IntKind.i64.wrap (y + dirY k) = y + dirY k := IntWalk.i64_in _ (by omega)
      have hli : (k : Int) < 4 := by omega
      have HOk := hide (fun (w' : World) (hx : Ext w w') => HOP.out w' hx k)
      generalize dirX k = dx at *
      generalize dirY k = dy at *
      generalize hob : op (x + dx) (y + dy) = ob at *
      have hx9 : w.heap.size < wr.heap.size + 1 + 1 := by omega
      cases ob
      · go_wp2_with fail
        refine (HOk.out _ (HX.out.trans (by (with_reducible (repeat' (first | exact Ext.refl _ | assumption | refine Ext.drew ?_ | refine Ext.drewN ?_ _ | refine Ext.alloc ?_ _ | refine Ext.setCell ?_ ?_ _ | refine Ext.trans ?_ (by assumption)))); all_goals (first | (simp; done) | (simp; omega))))).mono ?_
        rintro e w2 ⟨rfl, hb2⟩
        have hx2 : Ext wr w2 := (by (with_reducible (repeat' (first | exact Ext.refl _ | assumption | refine Ext.drew ?_ | refine Ext.drewN ?_ _ | refine Ext.alloc ?_ _ | refine Ext.setCell ?_ ?_ _ | refine Ext.trans ?_ (by assumption)))); all_goals (first | (simp; done) | (simp; omega)))
        clear hb2
        go_wp2
        go_roundw
        case rel => exact ⟨k + 1, by omega, by go_num, by rw [HSU.out]; simpa using HO.out.ext hx2, HB.out.trans (Below.mono hx2 (by omega))⟩
        case measure => simp [intOf]; omega
      · go_wp2_with fail
        refine (HOk.out _ (HX.out.trans (by (with_reducible (repeat' (first | exact Ext.refl _ | assumption | refine Ext.drew ?_ | refine Ext.drewN ?_ _ | refine Ext.alloc ?_ _ | refine Ext.setCell ?_ ?_ _ | refine Ext.trans ?_ (by assumption)))); all_goals (first | (simp; done) | (simp; omega))))).mono ?_
        rintro e w2 ⟨rfl, hb2⟩
        have hx2 : Ext wr w2 := (by (with_reducible (repeat' (first | exact Ext.refl _ | assumption | refine Ext.drew ?_ | refine Ext.drewN ?_ _ | refine Ext.alloc ?_ _ | refine Ext.setCell ?_ ?_ _ | refine Ext.trans ?_ (by assumption)))); all_goals (first | (simp; done) | (simp; omega)))
        obtain ⟨hc2, hf2⟩ := hb2.cells; have hz2 := hb2.size; (repeat (first | rw [World.size_alloc] at hz2 | rw [World.size_drew] at hz2)); have z2_0 : w.heap.size < w2.heap.size := (by omega)
        have e0 : w2.cell? ⟨wr.heap.size + 1, 0, none⟩ = some (.int .i64 (x + dx)) := by rw [hc2 _ _ (by simp)]; simp [go_sem]
        have e1 : w2.cell? ⟨wr.heap.size + 1, 1, none⟩ = some (.int .i64 (y + dy)) := by rw [hc2 _ _ (by simp)]; simp [go_sem]
        have hz2' : wr.heap.size + 1 < w2.heap.size := by omega
        have hz3 : wr.heap.size ≤ w2.heap.size := by omega
        have HX2 := hide hx2
        have HO2 := hide (HO.out.ext hx2)
        clear hc2 hf2 hb2 hz2 hx2
        go_wp2_with (at_builtin; refine wpList_app cellE T_cells rfl _ _ rfl (w.heap.size + 3) _ _ (nbC op x y k) rfl HO2.out (x + dx, y + dy) _ _ rfl _ rfl rfl (by omega) (by omega) (by omega) ?_; intro g9 c9 w9 hown9 hb9; have HO9 := hide hown9; clear hown9)
        go_roundw
        case rel => exact ⟨k + 1, by omega, by go_num, by rw [HSU.out]; simpa using HO9.out, HB.out.trans ((HX2.out.below.mono (by omega)).trans hb9)⟩
        case measure => simp [intOf]; omega
    · obtain rfl : k = 4 := by omega
      go_wp2
      go_ret
      exact ⟨_, rfl, HX.out, HO.out.lower (by omega)⟩
end Go.Proofs.Ytifbmapianddcaa
