/- Part 3 of 14 of the proof of StarBudget. -/
import Derived.Test.YtkonojjillcfiaaStarBudgetP02
import Derived.Deep.DeepCutAuto
import Derived.Test.YtkonojjillcfiaaStarBudgetP01
import Derived.Laws.Bits64b
import Derived.Laws.CopyOwn
import Derived.Deep.RegionLaw
import Derived.Deep.OwnRows
set_option linter.all false
set_option linter.unusedVariables false
set_option linter.unusedSimpArgs false
/- Walks of slices.Index and Contains on numbers, and of part's Border. -/
namespace Go.Proofs.Ytkonojjillcfiaa
open Go.RowKit

theorem Reads.ints {w : World} {b off cap : Nat} {n : Nat} {l : List Int} (h : Reads intE w (.slice (some ⟨b, off, none⟩) n cap) l) : b < w.heap.size ∧ IntsAt w b off l := by
  rcases h with ⟨hv, _⟩ | ⟨b', off', cap', hv, hb, hc⟩
  · simp at hv
  · simp only [Value.slice.injEq, Option.some.injEq, Addr.mk.injEq] at hv
    obtain ⟨⟨rfl, rfl, _⟩, _, _⟩ := hv
    refine ⟨hb, fun k hk => ?_⟩
    have := hc k l[k] (List.getElem?_eq_getElem hk) 0 (.int .i64 l[k]) rfl
    simpa [intE] using this

set_option maxHeartbeats 400000 in
theorem index_row (x : Int) (b off cap : Nat) (l : List Int) (w : World) (hb : b < w.heap.size) (hl : l.length ≤ 1000000) (hcells : IntsAt w b off l) :
    Calls Try.prog 80 #[.slice (some ⟨b, off, none⟩) l.length cap, .int .i64 x] w fun e w' => e = .returned (.int .i64 (fidx (x == ·) l)) ∧ Ext w w' := by
  have HC := hide hcells
  clear hcells
  go_enter Try.func80, Try.ntmps80
  go_wp2
  go_loopw [8] (fun i wr => ∃ k : Nat, k ≤ l.length ∧ i = .int .i64 k ∧ (∀ j (hj : j < k) (hj' : j < l.length), (x == l[j]) = false) ∧ Ext w wr) (fun i _ => l.length - (intOf i).toNat)
  case atStart => exact ⟨0, Nat.zero_le _, rfl, fun j hj => by omega, (by (with_reducible (repeat' (first | exact Ext.refl _ | assumption | refine Ext.drew ?_ | refine Ext.drewN ?_ _ | refine Ext.alloc ?_ _ | refine Ext.setCell ?_ ?_ _ | refine Ext.trans ?_ (by assumption)))); all_goals (first | (simp; done) | (simp; omega)))⟩
  case round =>
    obtain ⟨k, hk, rfl, hall, hext⟩ := hrel
    have HA := hide hall
    clear hall
    have hz := hext.size
    by_cases hlt : k < l.length
    · have dk := (HC.out.ext hb hext) k hlt
      cases hbad : (x == l[k])
      · go_wp2
        go_roundw
        case rel => exact ⟨k + 1, by omega, by go_num, fun j hj hj' => by
                    by_cases e : j = k
                    · subst e; exact hbad
                    · exact HA.out j (by omega) hj', (by (with_reducible (repeat' (first | exact Ext.refl _ | assumption | refine Ext.drew ?_ | refine Ext.drewN ?_ _ | refine Ext.alloc ?_ _ | refine Ext.setCell ?_ ?_ _ | refine Ext.trans ?_ (by assumption)))); all_goals (first | (simp; done) | (simp; omega)))⟩
        case measure => simp [intOf]; omega
      · go_wp2
        go_ret
        exact ⟨by rw [fidx_at hlt (fun j hj => HA.out j hj (by omega)) hbad]; rfl, (by (with_reducible (repeat' (first | exact Ext.refl _ | assumption | refine Ext.drew ?_ | refine Ext.drewN ?_ _ | refine Ext.alloc ?_ _ | refine Ext.setCell ?_ ?_ _ | refine Ext.trans ?_ (by assumption)))); all_goals (first | (simp; done) | (simp; omega)))⟩
    · go_wp2
      go_ret
      exact ⟨by rw [fidx_none (fun j hj => HA.out j (by omega) hj)]; rfl, (by (with_reducible (repeat' (first | exact Ext.refl _ | assumption | refine Ext.drew ?_ | refine Ext.drewN ?_ _ | refine Ext.alloc ?_ _ | refine Ext.setCell ?_ ?_ _ | refine Ext.trans ?_ (by assumption)))); all_goals (first | (simp; done) | (simp; omega)))⟩

theorem index_nil (x : Int) (w : World) :
    Calls Try.prog 80 #[.slice none 0 0, .int .i64 x] w fun e w' => e = .returned (.int .i64 (-1)) ∧ Ext w w' := by
  go_enter Try.func80, Try.ntmps80
  go_wp2
  go_loopw [8] (fun i wr => i = .int .i64 0 ∧ Ext w wr) (fun i _ => 0)
  case atStart => exact ⟨rfl, (by (with_reducible (repeat' (first | exact Ext.refl _ | assumption | refine Ext.drew ?_ | refine Ext.drewN ?_ _ | refine Ext.alloc ?_ _ | refine Ext.setCell ?_ ?_ _ | refine Ext.trans ?_ (by assumption)))); all_goals (first | (simp; done) | (simp; omega)))⟩
  case round =>
    obtain ⟨rfl, hext⟩ := hrel
    go_wp2
    go_ret
    exact ⟨rfl, (by (with_reducible (repeat' (first | exact Ext.refl _ | assumption | refine Ext.drew ?_ | refine Ext.drewN ?_ _ | refine Ext.alloc ?_ _ | refine Ext.setCell ?_ ?_ _ | refine Ext.trans ?_ (by assumption)))); all_goals (first | (simp; done) | (simp; omega)))⟩

theorem index_any (x : Int) (v : Value) (l : List Int) (w : World) (hl : l.length ≤ 1000000) (hr : Reads intE w v l) :
    Calls Try.prog 80 #[v, .int .i64 x] w fun e w' => e = .returned (.int .i64 (fidx (x == ·) l)) ∧ Ext w w' := by
  rcases hr with ⟨rfl, rfl⟩ | ⟨b, off, cap, rfl, hb, hc⟩
  · exact index_nil x w
  · exact index_row x b off cap l w hb hl (Reads.ints (.inr ⟨b, off, cap, rfl, hb, hc⟩)).2

def hasI (l : List Int) (x : Int) : Bool := l.contains x

theorem contains_any (x : Int) (v : Value) (l : List Int) (w : World) (hl : l.length ≤ 1000000) (hr : Reads intE w v l) :
    Calls Try.prog 58 #[v, .int .i64 x] w fun e w' => e = .returned (.bool (hasI l x)) ∧ Ext w w' := by
  have HR := hide hr
  clear hr
  go_enter Try.func58, Try.ntmps58
  go_wp2_with (first | (go_at_call 80; refine (index_any x v l _ hl HR.out).mono ?_; rintro e w1 ⟨rfl, hb1⟩; obtain ⟨hc1, hf1⟩ := hb1.cells; have hz1 := hb1.size; (repeat (first | rw [World.size_alloc] at hz1 | rw [World.size_drew] at hz1))))
  go_ret
  have h0 : ∀ l : List Int, l.contains x = l.any (x == ·) := by
    intro l
    induction l with
    | nil => rfl
    | cons a l ih => rw [List.any_cons, ← ih]; rfl
  have e : decide (0 ≤ fidx (x == ·) l) = hasI l x := by unfold hasI; rw [fidx_ge, h0]
  exact ⟨by rw [← e]; rfl, (by (with_reducible (repeat' (first | exact Ext.refl _ | assumption | refine Ext.drew ?_ | refine Ext.drewN ?_ _ | refine Ext.alloc ?_ _ | refine Ext.setCell ?_ ?_ _ | refine Ext.trans ?_ (by assumption)))); all_goals (first | (simp; done) | (simp; omega)))⟩
end Go.Proofs.Ytkonojjillcfiaa

/- The walk of part's Border. -/
namespace Go.Proofs.Ytkonojjillcfiaa
open Go.RowKit

def cellE : Enc Cell := ⟨2, fun c => [.int .i64 c.1, .int .i64 c.2], fun _ => rfl, fun _ u hu => by simp at hu; rcases hu with rfl | rfl <;> rfl⟩
def pairE : Enc (Cell × Cell) := ⟨4, fun p => [.int .i64 p.1.1, .int .i64 p.1.2, .int .i64 p.2.1, .int .i64 p.2.2], fun _ => rfl, fun _ u hu => by simp at hu; rcases hu with rfl | rfl | rfl | rfl <;> rfl⟩

theorem T_pairs : ElemT Try.prog 39 50 (.agg #[.int .i64 0, .int .i64 0, .int .i64 0, .int .i64 0]) 4 32 := ⟨Try.underlying39, by kernel_rfl, rfl, by decide⟩

def RetPairs (w : World) (L : List (Cell × Cell)) (err : Int) (e : Ending) (w' : World) : Prop := ∃ v, e = .returned (.tuple #[v, .int .i64 err]) ∧ Ext w w' ∧ Own pairE w' w.heap.size 50 v L

def sideL (X2 Y1 : Int) (n : Nat) : List (Cell × Cell) := (List.range n).map fun i : Nat => ((X2 - 1, Y1 + (i : Int)), (X2, Y1 + (i : Int)))
def lowL (X1 Y2 : Int) (n : Nat) : List (Cell × Cell) := (List.range n).map fun i : Nat => ((X1 + (i : Int), Y2 - 1), (X1 + (i : Int), Y2))

def boxW (W s id : Int) : Int := min s (W - boxX W s id)
def boxH (W H s id : Int) : Int := min s (H - boxY W s id)

/-- The pairs along the border of two clusters side by side, the first one's number less. -/
def borderL (W H s a b : Int) : List (Cell × Cell) :=
  if boxY W s a = boxY W s b then sideL (boxX W s b) (boxY W s a) (boxH W H s a).toNat else lowL (boxX W s a) (boxY W s b) (boxW W s a).toNat

theorem Border_err (W H s a b : Int) (w : World) (hr : (hasE W H s [a, b] != 0) = true) :
    Calls Try.prog 24 #[.agg #[.int .i64 W, .int .i64 H, .int .i64 s], .int .i64 a, .int .i64 b] w fun e w' => e = .returned (.tuple #[.slice none 0 0, .int .i64 (hasE W H s [a, b])]) ∧ Ext w w' := by
  go_enter Try.func24, Try.ntmps24
  go_wp2_with (first
    | (go_at_call 56; refine (has_any W H s _ 0 _ [a, b] _ (by simp) (by simp) (by exact two_at _ _ _ _ _ (by simp))).mono ?_; rintro e w1 ⟨rfl, hb1⟩; obtain ⟨hc1, hf1⟩ := hb1.cells; have hz1 := hb1.size; (repeat (first | rw [World.size_alloc] at hz1 | rw [World.size_drew] at hz1)); have z1_0 : w.heap.size < w1.heap.size := (by omega)))
  go_ret2
  exact ⟨rfl, (by (with_reducible (repeat' (first | exact Ext.refl _ | assumption | refine Ext.drew ?_ | refine Ext.drewN ?_ _ | refine Ext.alloc ?_ _ | refine Ext.setCell ?_ ?_ _ | refine Ext.trans ?_ (by assumption)))); all_goals (first | (simp; done) | (simp; omega)))⟩

theorem besideL_len (W H s id : Int) : (besideL W H s id).length ≤ 4 := by
  have h1 := opt_len (decide (acr W s ≤ id)) (id - acr W s)
  have h2 := opt_len (decide (id % acr W s < acr W s - 1)) (id + 1)
  have h3 := opt_len (decide (id + acr W s < cnt W H s)) (id + acr W s)
  have h4 := opt_len (decide (0 < id % acr W s)) (id - 1)
  simp only [besideL, List.length_append]; omega

set_option maxRecDepth 100000 in
set_option maxHeartbeats 1000000 in
theorem Border_arg (W H s a b : Int) (w : World) (hr : rightB W H s = true) (h0 : 0 ≤ a) (ha : a < cnt W H s) (h1 : 0 ≤ b) (hb : b < cnt W H s) (hn : hasI (besideL W H s (min a b)) (max a b) = false) :
    Calls Try.prog 24 #[.agg #[.int .i64 W, .int .i64 H, .int .i64 s], .int .i64 a, .int .i64 b] w fun e w' => e = .returned (.tuple #[.slice none 0 0, .int .i64 1]) ∧ Ext w w' := by
  have hany : [a, b].any (bad W H s) = false := by simp [bad_false h0 ha, bad_false h1 hb]
  go_enter Try.func24, Try.ntmps24
  go_upto_region 4 with (first
    | (go_at_call 56; refine (has_ok W H s _ 0 _ [a, b] _ hr hany (by simp) (by simp) (by exact two_at _ _ _ _ _ (by simp))).mono ?_; rintro e w1 ⟨rfl, hb1⟩; obtain ⟨hc1, hf1⟩ := hb1.cells; have hz1 := hb1.size; (repeat (first | rw [World.size_alloc] at hz1 | rw [World.size_drew] at hz1)); have z1_0 : w.heap.size < w1.heap.size := (by omega)))
  have hx1 : Ext w w1 := (by (with_reducible (repeat' (first | exact Ext.refl _ | assumption | refine Ext.drew ?_ | refine Ext.drewN ?_ _ | refine Ext.alloc ?_ _ | refine Ext.setCell ?_ ?_ _ | refine Ext.trans ?_ (by assumption)))); all_goals (first | (simp; done) | (simp; omega)))
  go_cut [1, 2] (fun s1 s2 wx => s1 = .int .i64 (min a b) ∧ s2 = .int .i64 (max a b) ∧ w1 = wx)
  case first =>
    go_wp2
    all_goals go_meet
    all_goals exact ⟨by congr 1; omega, by congr 1; omega, rfl⟩
  case rest =>
    obtain ⟨rfl, rfl, rfl⟩ := hcut
    have l0 : 0 ≤ min a b := by omega
    have l1 : min a b < cnt W H s := by omega
    generalize min a b = lo at *
    generalize max a b = hi at *
    have hlen := besideL_len W H s lo
    go_wp2_with (first
      | (go_at_call 57; refine (Beside_yes W H s lo _ hr l0 l1).mono ?_; rintro e w2 ⟨v, rfl, hb2, hv⟩; have HV := hide hv; clear hv; obtain ⟨hc2, hf2⟩ := hb2.cells; have hz2 := hb2.size; (repeat (first | rw [World.size_alloc] at hz2 | rw [World.size_drew] at hz2)); have z2_0 : w.heap.size < w2.heap.size := (by omega))
      | (go_at_call 58; refine (contains_any hi _ (besideL W H s lo) _ (by omega) HV.out.reads).mono ?_; rintro e w3 ⟨rfl, hb3⟩; obtain ⟨hc3, hf3⟩ := hb3.cells; have hz3 := hb3.size; (repeat (first | rw [World.size_alloc] at hz3 | rw [World.size_drew] at hz3))))
    go_ret2
    exact ⟨rfl, (by (with_reducible (repeat' (first | exact Ext.refl _ | assumption | refine Ext.drew ?_ | refine Ext.drewN ?_ _ | refine Ext.alloc ?_ _ | refine Ext.setCell ?_ ?_ _ | refine Ext.trans ?_ (by assumption)))); all_goals (first | (simp; done) | (simp; omega)))⟩

end Go.Proofs.Ytkonojjillcfiaa

/- Walk of the flood's beside. -/
namespace Go.Proofs.Ytkonojjillcfiaa
open Go.RowKit

theorem T_cells : ElemT Try.prog 59 49 (.agg #[.int .i64 0, .int .i64 0]) 2 16 := ⟨Try.underlying59, by kernel_rfl, rfl, by decide⟩

def dirX (n : Nat) : Int := match n with | 1 => 1 | 3 => -1 | _ => 0
def dirY (n : Nat) : Int := match n with | 0 => -1 | 2 => 1 | _ => 0
theorem dir_bd (n : Nat) : -1 ≤ dirX n ∧ dirX n ≤ 1 ∧ -1 ≤ dirY n ∧ dirY n ≤ 1 := by
  unfold dirX dirY
  split <;> split <;> omega

/-- The open cells of the first k directions. -/
def nbC (op : Int → Int → Bool) (x y : Int) : Nat → List Cell
  | 0 => []
  | k + 1 => nbC op x y k ++ if op (x + dirX k) (y + dirY k) = true then [(x + dirX k, y + dirY k)] else []
theorem nbC_len (op : Int → Int → Bool) (x y : Int) : ∀ k, (nbC op x y k).length ≤ k
  | 0 => Nat.le_refl _
  | k + 1 => by
    have := nbC_len op x y k
    unfold nbC
    split <;> simp <;> omega

set_option maxRecDepth 100000 in
set_option maxHeartbeats 1000000 in
theorem fBeside_any {w : World} {W H : Int} {a : Option Addr} {l : List Int} {bx byy bw bh : Int} (L : LandAt w W H a l bx byy bw bh) (c : Nat) (x y : Int) (hx1 : -1 ≤ x) (hx2 : x ≤ 1000) (hy1 : -1 ≤ y) (hy2 : y ≤ 1000) :
    Calls Try.prog 97 #[.agg #[.int .i64 W, .int .i64 H, .slice a l.length c, .int .i64 bx, .int .i64 byy, .int .i64 bw, .int .i64 bh], .agg #[.int .i64 x, .int .i64 y]] w fun e w' => ∃ v, e = .returned v ∧ Ext w w' ∧ Own cellE w' w.heap.size 49 v (nbC (openB l W bx byy bw bh) x y 4) := by
  have HL := hide L
  obtain ⟨n, hn⟩ : ∃ n, l.length = n := ⟨_, rfl⟩
  have HOP := hide (fun (w' : World) (hx : Ext w w') (k : Nat) => fOpen_any (L.ext hx) c (x + dirX k) (y + dirY k))
  rw [hn] at HOP ⊢
  generalize openB l W bx byy bw bh = op at *
  clear L HL hn
  go_enter Try.func97, Try.ntmps97
  go_wp2_with fail
  obtain ⟨w0, hw0⟩ : ∃ w0, w0 = ((w.alloc (.cells #[.int .i64 W, .int .i64 H, .slice a n c, .int .i64 bx, .int .i64 byy, .int .i64 bw, .int .i64 bh] 122)).alloc (.cells #[.int .i64 x, .int .i64 y] 49)).alloc (.cells #[.int .i64 0, .int .i64 (-1), .int .i64 1, .int .i64 0, .int .i64 0, .int .i64 1, .int .i64 (-1), .int .i64 0] 49) := ⟨_, rfl⟩
  have hx0 : Ext w w0 := by rw [hw0]; exact (by (with_reducible (repeat' (first | exact Ext.refl _ | assumption | refine Ext.drew ?_ | refine Ext.drewN ?_ _ | refine Ext.alloc ?_ _ | refine Ext.setCell ?_ ?_ _ | refine Ext.trans ?_ (by assumption)))); all_goals (first | (simp; done) | (simp; omega)))
  have z0 : w0.heap.size = w.heap.size + 3 := by rw [hw0]; simp
  have q0 : w0.cell? ⟨w.heap.size, 0, none⟩ = some (.int .i64 W) := by rw [hw0]; simp [go_sem]
  have q1 : w0.cell? ⟨w.heap.size, 1, none⟩ = some (.int .i64 H) := by rw [hw0]; simp [go_sem]
  have q2 : w0.cell? ⟨w.heap.size, 2, none⟩ = some (.slice a n c) := by rw [hw0]; simp [go_sem]
  have q3 : w0.cell? ⟨w.heap.size, 3, none⟩ = some (.int .i64 bx) := by rw [hw0]; simp [go_sem]
  have q4 : w0.cell? ⟨w.heap.size, 4, none⟩ = some (.int .i64 byy) := by rw [hw0]; simp [go_sem]
  have q5 : w0.cell? ⟨w.heap.size, 5, none⟩ = some (.int .i64 bw) := by rw [hw0]; simp [go_sem]
  have q6 : w0.cell? ⟨w.heap.size, 6, none⟩ = some (.int .i64 bh) := by rw [hw0]; simp [go_sem]
  have p0 : w0.cell? ⟨w.heap.size + 1, 0, none⟩ = some (.int .i64 x) := by rw [hw0]; simp [go_sem]
  have p1 : w0.cell? ⟨w.heap.size + 1, 1, none⟩ = some (.int .i64 y) := by rw [hw0]; simp [go_sem]
  have hd : ∀ k, k < 4 → w0.cell? ⟨w.heap.size + 2, k * 2, none⟩ = some (.int .i64 (dirX k)) ∧ w0.cell? ⟨w.heap.size + 2, k * 2 + 1, none⟩ = some (.int .i64 (dirY k)) := by
    intro k hk
    rw [hw0]
    obtain rfl | rfl | rfl | rfl : k = 0 ∨ k = 1 ∨ k = 2 ∨ k = 3 := by omega
    all_goals (constructor <;> simp [go_sem, dirX, dirY])
  have HD := hide hd
  rw [← hw0]
  clear hw0 hd
  go_loopw [5, 15] (fun out i wr => ∃ k : Nat, k ≤ 4 ∧ i = .int .i64 k ∧ Own cellE wr (w.heap.size + 3) 49 out (nbC op x y k) ∧ Below (w.heap.size + 3) w0 wr) (fun _ i _ => 4 - (intOf i).toNat)
  case atStart => exact ⟨0, Nat.zero_le _, rfl, Own.nil _ _ _ _, Below.refl _ _⟩
  case round =>
    obtain ⟨k, hk4, rfl, hown, hbel⟩ := hrel
    have HO := hide hown
    have HB := hide hbel
    have hz := hbel.size
    have hxr : Ext w wr := hx0.of_below hbel (by omega)
    have q0' := (hbel.cell (p := ⟨w.heap.size, 0, none⟩) (show w.heap.size < w.heap.size + 3 by omega)).trans q0
    have q1' := (hbel.cell (p := ⟨w.heap.size, 1, none⟩) (show w.heap.size < w.heap.size + 3 by omega)).trans q1
    have q2' := (hbel.cell (p := ⟨w.heap.size, 2, none⟩) (show w.heap.size < w.heap.size + 3 by omega)).trans q2
    have q3' := (hbel.cell (p := ⟨w.heap.size, 3, none⟩) (show w.heap.size < w.heap.size + 3 by omega)).trans q3
    have q4' := (hbel.cell (p := ⟨w.heap.size, 4, none⟩) (show w.heap.size < w.heap.size + 3 by omega)).trans q4
    have q5' := (hbel.cell (p := ⟨w.heap.size, 5, none⟩) (show w.heap.size < w.heap.size + 3 by omega)).trans q5
    have q6' := (hbel.cell (p := ⟨w.heap.size, 6, none⟩) (show w.heap.size < w.heap.size + 3 by omega)).trans q6
    have p0' := (hbel.cell (p := ⟨w.heap.size + 1, 0, none⟩) (show w.heap.size + 1 < w.heap.size + 3 by omega)).trans p0
    have p1' := (hbel.cell (p := ⟨w.heap.size + 1, 1, none⟩) (show w.heap.size + 1 < w.heap.size + 3 by omega)).trans p1
    have zr : w.heap.size + 2 < wr.heap.size := by omega
    have zr1 : w.heap.size + 1 < wr.heap.size := by omega
    have zr0 : w.heap.size < wr.heap.size := by omega
    have zr3 : w.heap.size + 3 ≤ wr.heap.size := by omega
    have hlen := nbC_len op x y k
    have HSU := hide (show nbC op x y (k + 1) = nbC op x y k ++ if op (x + dirX k) (y + dirY k) = true then [(x + dirX k, y + dirY k)] else [] from rfl)
    have HX := hide hxr
    clear q0 q1 q2 q3 q4 q5 q6 p0 p1 hown hbel
    by_cases hlt : k < 4
    · have d0 := (HB.out.cell (p := ⟨w.heap.size + 2, k * 2, none⟩) (show w.heap.size + 2 < w.heap.size + 3 by omega)).trans (HD.out k hlt).1
      have d1 := (HB.out.cell (p := ⟨w.heap.size + 2, k * 2 + 1, none⟩) (show w.heap.size + 2 < w.heap.size + 3 by omega)).trans (HD.out k hlt).2
      have hdb := dir_bd k
      have k1 : IntKind.i64.wrap (x + dirX k) = x + dirX k := IntWalk.i64_in _ (by omega)
      have k2 : IntKind.i64.wrap (y + dirY k) = y + dirY k := IntWalk.i64_in _ (by omega)
      have hli : (k : Int) < 4 := by omega
      have HOk := hide (fun (w' : World) (hx : Ext w w') => HOP.out w' hx k)
      generalize dirX k = dx at *
      generalize dirY k = dy at *
      generalize hob : op (x + dx) (y + dy) = ob at *
      have hx9 : w.heap.size < wr.heap.size + 1 + 1 := by omega
      cases ob
      · go_wp2_with fail
        refine (HOk.out _ (HX.out.trans (by (with_reducible (repeat' (first | exact Ext.refl _ | assumption | refine Ext.drew ?_ | refine Ext.drewN ?_ _ | refine Ext.alloc ?_ _ | refine Ext.setCell ?_ ?_ _ | refine Ext.trans ?_ (by assumption)))); all_goals (first | (simp; done) | (simp; omega))))).mono ?_
        rintro e w2 ⟨rfl, hb2⟩
        have hx2 : Ext wr w2 := (by (with_reducible (repeat' (first | exact Ext.refl _ | assumption | refine Ext.drew ?_ | refine Ext.drewN ?_ _ | refine Ext.alloc ?_ _ | refine Ext.setCell ?_ ?_ _ | refine Ext.trans ?_ (by assumption)))); all_goals (first | (simp; done) | (simp; omega)))
        clear hb2
        go_wp2
        go_roundw
        case rel => exact ⟨k + 1, by omega, by go_num, by rw [HSU.out]; simpa using HO.out.ext hx2, HB.out.trans (Below.mono hx2 (by omega))⟩
        case measure => simp [intOf]; omega
      · go_wp2_with fail
        refine (HOk.out _ (HX.out.trans (by (with_reducible (repeat' (first | exact Ext.refl _ | assumption | refine Ext.drew ?_ | refine Ext.drewN ?_ _ | refine Ext.alloc ?_ _ | refine Ext.setCell ?_ ?_ _ | refine Ext.trans ?_ (by assumption)))); all_goals (first | (simp; done) | (simp; omega))))).mono ?_
        rintro e w2 ⟨rfl, hb2⟩
        have hx2 : Ext wr w2 := (by (with_reducible (repeat' (first | exact Ext.refl _ | assumption | refine Ext.drew ?_ | refine Ext.drewN ?_ _ | refine Ext.alloc ?_ _ | refine Ext.setCell ?_ ?_ _ | refine Ext.trans ?_ (by assumption)))); all_goals (first | (simp; done) | (simp; omega)))
        obtain ⟨hc2, hf2⟩ := hb2.cells; have hz2 := hb2.size; (repeat (first | rw [World.size_alloc] at hz2 | rw [World.size_drew] at hz2)); have z2_0 : w.heap.size < w2.heap.size := (by omega)
        have e0 : w2.cell? ⟨wr.heap.size + 1, 0, none⟩ = some (.int .i64 (x + dx)) := by rw [hc2 _ _ (by simp)]; simp [go_sem]
        have e1 : w2.cell? ⟨wr.heap.size + 1, 1, none⟩ = some (.int .i64 (y + dy)) := by rw [hc2 _ _ (by simp)]; simp [go_sem]
        have hz2' : wr.heap.size + 1 < w2.heap.size := by omega
        have hz3 : wr.heap.size ≤ w2.heap.size := by omega
        have HX2 := hide hx2
        have HO2 := hide (HO.out.ext hx2)
        clear hc2 hf2 hb2 hz2 hx2
        go_wp2_with (at_builtin; refine wpList_app cellE T_cells rfl _ _ rfl (w.heap.size + 3) _ _ (nbC op x y k) rfl HO2.out (x + dx, y + dy) _ _ rfl _ rfl rfl (by omega) (by omega) (by omega) ?_; intro g9 c9 w9 hown9 hb9; have HO9 := hide hown9; clear hown9)
        go_roundw
        case rel => exact ⟨k + 1, by omega, by go_num, by rw [HSU.out]; simpa using HO9.out, HB.out.trans ((HX2.out.below.mono (by omega)).trans hb9)⟩
        case measure => simp [intOf]; omega
    · obtain rfl : k = 4 := by omega
      go_wp2
      go_ret
      exact ⟨_, rfl, HX.out, HO.out.lower (by omega)⟩
end Go.Proofs.Ytkonojjillcfiaa

/- Plain laws on how far places are from one, as the only solution of its equation; and on ways. -/
namespace Go.Proofs.Ytkonojjillcfiaa

def infI : Int := 18446744073709551615

/-- A graph: which places are open, what each costs, and which lie beside one. -/
structure Net where
  n : Nat
  op : Nat → Bool
  cost : Nat → Int
  adj : Nat → List Nat
  pos : ∀ v, op v = true → 1 ≤ cost v
  top : ∀ v, op v = true → cost v ≤ 65535
  lt : ∀ v, op v = true → v < n
  sym : ∀ u v, op u = true → op v = true → u ∈ adj v → v ∈ adj u

/-- f says how far all are from one place, none being infI. -/
structure IsFar (G : Net) (s : Nat) (f : Nat → Int) : Prop where
  start : G.op s = true → f s = 0
  shut : ∀ v, G.op v = false → f v = infI
  nn : ∀ v, 0 ≤ f v
  le : ∀ v, f v ≤ infI
  near : ∀ v, G.op v = true → v ≠ s → ∀ u, u ∈ G.adj v → G.op u = true → f u + G.cost v < infI → f v ≤ f u + G.cost v
  from_ : ∀ v, G.op v = true → v ≠ s → f v < infI → ∃ u, u ∈ G.adj v ∧ G.op u = true ∧ f u + G.cost v = f v

theorem IsFar.open_ {G : Net} {s : Nat} {f : Nat → Int} (h : IsFar G s f) {v : Nat} (hv : f v < infI) : G.op v = true := by
  cases ho : G.op v
  · rw [h.shut v ho] at hv; omega
  · rfl

theorem IsFar.le_of {G : Net} {s : Nat} {f g : Nat → Int} (hf : IsFar G s f) (hg : IsFar G s g) : ∀ (k : Nat) (v : Nat), f v = (k : Int) → f v < infI → g v ≤ f v := by
  intro k
  induction k using Nat.strongRecOn with
  | _ k ih =>
    intro v hv hk
    have ho := hf.open_ hk
    by_cases hs : v = s
    · subst hs
      rw [hf.start ho, hg.start ho]; exact Int.le_refl _
    · obtain ⟨u, hu, huo, he⟩ := hf.from_ v ho hs hk
      have hc := G.pos v ho
      have hn := hf.nn u
      have h1 := ih (f u).toNat (by omega) u (by omega) (by omega)
      have h2 := hg.near v ho hs u hu huo (by omega)
      omega

/-- There is one solution only. -/
theorem IsFar.same {G : Net} {s : Nat} {f g : Nat → Int} (hf : IsFar G s f) (hg : IsFar G s g) (v : Nat) : f v = g v := by
  have a := hf.le v
  have b := hg.le v
  have c := hf.nn v
  have d := hg.nn v
  by_cases h : f v < infI
  · have h1 := hf.le_of hg (f v).toNat v (by omega) h
    have h2 := hg.le_of hf (g v).toNat v (by omega) (by omega)
    omega
  · by_cases h' : g v < infI
    · have := hg.le_of hf (g v).toNat v (by omega) h'
      omega
    · omega

/-- A way from s to v that costs c. -/
inductive Way (G : Net) (s : Nat) : Nat → Int → Prop where
  | start : G.op s = true → Way G s s 0
  | step {u v : Nat} {c : Int} : Way G s u c → u ∈ G.adj v → G.op v = true → Way G s v (c + G.cost v)

theorem Way.ends {G : Net} {s v : Nat} {c : Int} (h : Way G s v c) : G.op s = true ∧ G.op v = true ∧ 0 ≤ c := by
  induction h with
  | start h => exact ⟨h, h, Int.le_refl _⟩
  | step _ _ ho ih => exact ⟨ih.1, ho, by have := G.pos _ ho; omega⟩

theorem Way.cast {G : Net} {s v : Nat} {c d : Int} (h : Way G s v c) (e : c = d) : Way G s v d := e ▸ h

theorem Way.concat {G : Net} {a b d : Nat} {x y : Int} (h : Way G a b x) (k : Way G b d y) : Way G a d (x + y) := by
  induction k with
  | start _ => exact h.cast (by omega)
  | step _ hu ho ih => exact (Way.step ih hu ho).cast (by omega)

theorem Way.back {G : Net} {s t : Nat} {c : Int} (h : Way G s t c) : Way G t s (c + G.cost s - G.cost t) := by
  induction h with
  | start h => exact (Way.start h).cast (by omega)
  | step w hu ho ih =>
    have e := w.ends
    exact ((Way.step (Way.start ho) (G.sym _ _ e.2.1 ho hu) e.2.1).concat ih).cast (by omega)

theorem IsFar.le_way {G : Net} {s : Nat} {f : Nat → Int} (hf : IsFar G s f) {v : Nat} {c : Int} (h : Way G s v c) : c < infI → f v ≤ c := by
  induction h with
  | start h => intro _; rw [hf.start h]; exact Int.le_refl _
  | step w hu ho ih =>
    rename_i u v c
    intro hc
    have e := w.ends
    have p := G.pos _ ho
    have i := ih (by omega)
    by_cases hs : v = s
    · subst hs; rw [hf.start ho]; omega
    · have := hf.near _ ho hs _ hu e.2.1 (by omega)
      omega

theorem IsFar.way {G : Net} {s : Nat} {f : Nat → Int} (hf : IsFar G s f) : ∀ (k : Nat) (v : Nat), f v = (k : Int) → f v < infI → Way G s v (f v) := by
  intro k
  induction k using Nat.strongRecOn with
  | _ k ih =>
    intro v hv hk
    have ho := hf.open_ hk
    by_cases hs : v = s
    · subst hs
      rw [hf.start ho]; exact .start ho
    · obtain ⟨u, hu, huo, he⟩ := hf.from_ v ho hs hk
      have hc := G.pos v ho
      have hn := hf.nn u
      exact (Way.step (ih (f u).toNat (by omega) u (by omega) (by omega)) hu ho).cast he

theorem IsFar.way_of {G : Net} {s : Nat} {f : Nat → Int} (hf : IsFar G s f) {v : Nat} (h : f v < infI) : Way G s v (f v) :=
  hf.way (f v).toNat v (by have := hf.nn v; omega) h

/-- A net within another one. -/
structure Net.Sub (G K : Net) : Prop where
  op : ∀ v, G.op v = true → K.op v = true
  cost : ∀ v, G.op v = true → K.cost v ≤ G.cost v
  adj : ∀ u v, G.op u = true → G.op v = true → u ∈ G.adj v → u ∈ K.adj v

theorem Way.sub {G K : Net} (S : G.Sub K) {s v : Nat} {c : Int} (h : Way G s v c) : ∃ d, d ≤ c ∧ Way K s v d := by
  induction h with
  | start h => exact ⟨0, Int.le_refl _, .start (S.op _ h)⟩
  | step w hu ho ih =>
    obtain ⟨d, h1, h2⟩ := ih
    exact ⟨_, by have := S.cost _ ho; omega, Way.step h2 (S.adj _ _ w.ends.2.1 ho hu) (S.op _ ho)⟩

theorem IsFar.sub_le {G K : Net} (S : G.Sub K) {s : Nat} {f g : Nat → Int} (hf : IsFar G s f) (hg : IsFar K s g) (v : Nat) : g v ≤ f v := by
  by_cases h : f v < infI
  · obtain ⟨d, h1, h2⟩ := (hf.way_of h).sub S
    have := hg.le_way h2 (by omega)
    omega
  · have := hg.le v
    omega

/-- All that is finite is bounded. -/
def FarLow (G : Net) (f : Nat → Int) : Prop := ∀ v, f v < infI → f v ≤ 65535 * (G.n : Int)

theorem IsFar.backs {G : Net} {s t : Nat} {f g : Nat → Int} (hn : G.n ≤ 1000000) (hf : IsFar G s f) (hg : IsFar G t g) (lf : FarLow G f) (h : f t < infI) : g s + G.cost t ≤ f t + G.cost s := by
  have w := hf.way_of h
  have e := w.ends
  have := G.top _ e.1
  have := G.pos _ e.2.1
  have := lf t h
  have := hg.le_way w.back (by show _ < (18446744073709551615 : Int); omega)
  omega

theorem IsFar.third {G : Net} {s a t : Nat} {f g : Nat → Int} (hn : G.n ≤ 1000000) (hf : IsFar G s f) (hg : IsFar G a g) (lf : FarLow G f) (lg : FarLow G g) (h : f a < infI) (k : g t < infI) : f t ≤ f a + g t := by
  have := lf a h
  have := lg t k
  exact hf.le_way ((hf.way_of h).concat (hg.way_of k)) (by show _ < (18446744073709551615 : Int); omega)
end Go.Proofs.Ytkonojjillcfiaa

/- The plain invariant of the flood: settled places, waiting ones, and how far all are. -/
namespace Go.Proofs.Ytkonojjillcfiaa

def updF (f : Nat → Int) (j : Nat) (x : Int) (v : Nat) : Int := if v = j then x else f v
theorem updF_same (f : Nat → Int) (j : Nat) (x : Int) : updF f j x j = x := if_pos rfl
theorem updF_ne (f : Nat → Int) {j v : Nat} (x : Int) (h : v ≠ j) : updF f j x v = f v := if_neg h

structure Dij (G : Net) (K : Nat → Int × Int) (s : Nat) (far : Nat → Int) (ts : List Thing) (S : List Nat) (pend : Nat → Nat → Prop) : Prop where
  nn : ∀ v, 0 ≤ far v
  le : ∀ v, far v ≤ infI
  shut : ∀ v, G.op v = false → far v = infI
  start : far s = 0
  nodupS : S.Nodup
  inS : ∀ v, v ∈ S → far v < infI
  nodupT : (ids ts).Nodup
  thing : ∀ t, t ∈ ts → ∃ v : Nat, t = ((v : Int), ((far v, 0), K v)) ∧ v ∉ S ∧ far v < infI
  fin : ∀ v, far v < infI → v ∈ S ∨ (v : Int) ∈ ids ts
  ord : ∀ u v, u ∈ S → v ∉ S → far u ≤ far v
  relax : ∀ u v, u ∈ S → G.op v = true → u ∈ G.adj v → ¬ pend u v → far v ≤ far u + G.cost v
  from_ : ∀ v, G.op v = true → v ≠ s → far v < infI → ∃ u, u ∈ S ∧ u ∈ G.adj v ∧ far u + G.cost v = far v
  low : ∀ v, far v < infI → far v ≤ 65535 * (S.length : Int)

variable {G : Net} {K : Nat → Int × Int} {s : Nat} {far : Nat → Int} {ts ts' : List Thing} {S : List Nat} {pend pend' : Nat → Nat → Prop}

theorem Dij.open_ (D : Dij G K s far ts S pend) {v : Nat} (h : far v < infI) : G.op v = true := by
  cases ho : G.op v
  · rw [D.shut v ho] at h; omega
  · rfl

theorem Dij.perm (D : Dij G K s far ts S pend) (h : ts'.Perm ts) : Dij G K s far ts' S pend :=
  { D with
    nodupT := (ids_perm h).nodup_iff.2 D.nodupT
    thing := fun t ht => D.thing t (h.mem_iff.1 ht)
    fin := fun v hv => (D.fin v hv).imp id fun k => (ids_perm h).mem_iff.2 k }

theorem Dij.weaken (D : Dij G K s far ts S pend) (h : ∀ u v, u ∈ S → G.op v = true → u ∈ G.adj v → pend u v → pend' u v) : Dij G K s far ts S pend' :=
  { D with relax := fun u v hu hv ha hp => D.relax u v hu hv ha fun k => hp (h u v hu hv ha k) }

theorem dij_start (hs : G.op s = true) : Dij G K s (updF (fun _ => infI) s 0) [((s : Int), ((0, 0), K s))] [] (fun _ _ => False) where
  nn v := by unfold updF; split <;> simp [infI]
  le v := by unfold updF; split <;> simp [infI]
  shut v hv := by
    unfold updF
    split
    · next e => subst e; rw [hs] at hv; cases hv
    · rfl
  start := updF_same _ _ _
  nodupS := List.nodup_nil
  inS v hv := by cases hv
  nodupT := by simp [ids]
  thing t ht := by
    simp only [List.mem_singleton] at ht
    subst ht
    exact ⟨s, by rw [updF_same], by simp, by rw [updF_same]; decide⟩
  fin v hv := by
    right
    unfold updF at hv
    split at hv
    · next e => subst e; simp [ids]
    · exact absurd hv (Int.lt_irrefl _)
  ord u v hu := by cases hu
  relax u v hu := by cases hu
  from_ v _ hv hf := by rw [updF_ne _ _ hv] at hf; exact absurd hf (Int.lt_irrefl _)
  low v hv := by
    unfold updF at hv ⊢
    split at hv
    · next e => rw [if_pos e]; simp
    · exact absurd hv (Int.lt_irrefl _)

/-- The first of a heap is taken. -/
theorem dij_pop (D : Dij G K s far ts S (fun _ _ => False)) (hok : HeapOk ts) (hp : (tat ts 0 :: ts').Perm ts) :
    ∃ i : Nat, tat ts 0 = ((i : Int), ((far i, 0), K i)) ∧ i ∉ S ∧ far i < infI ∧ (∀ u, u ∈ i :: S → far u ≤ far i) ∧ far i + 65535 ≤ 65535 * ((i :: S).length : Int) ∧ Dij G K s far ts' (i :: S) (fun u v => u = i ∧ v ∈ G.adj i) := by
  have hmem : tat ts 0 ∈ ts := hp.mem_iff.1 List.mem_cons_self
  obtain ⟨i, hi, hiS, hif⟩ := D.thing _ hmem
  have D' := D.perm hp
  have hnd := D'.nodupT
  rw [show ids (tat ts 0 :: ts') = (tat ts 0).1 :: ids ts' from rfl, List.nodup_cons, hi] at hnd
  have hmin : ∀ v, v ∉ S → far i ≤ far v := fun v hv => by
    by_cases hf : far v < infI
    · rcases D.fin v hf with h | h
      · exact absurd h hv
      · obtain ⟨t, ht, hte⟩ := List.mem_map.1 h
        obtain ⟨v', e, _, _⟩ := D.thing t ht
        obtain ⟨k, hk, hkt⟩ := List.mem_iff_getElem.1 ht
        have hl := heap_min hok k hk
        rw [tat_lt hk, hkt, hi, le_iff, e] at hl
        rw [e] at hte
        have : v' = v := by simp only at hte; omega
        subst this
        simp only at hl
        omega
    · omega
  have hiop := D.open_ hif
  have hlow := D.low i hif
  refine ⟨i, hi, hiS, hif, fun u hu => ?_, by simp only [List.length_cons]; push_cast; omega, ?_⟩
  · rcases List.mem_cons.1 hu with rfl | hu
    · exact Int.le_refl _
    · exact D.ord u i hu hiS
  · exact {
      nn := D.nn, le := D.le, shut := D.shut, start := D.start
      nodupS := List.nodup_cons.2 ⟨hiS, D.nodupS⟩
      inS := fun v hv => by
        rcases List.mem_cons.1 hv with rfl | hv
        · exact hif
        · exact D.inS v hv
      nodupT := hnd.2
      thing := fun t ht => by
        obtain ⟨v, e, h1, h2⟩ := D'.thing t (List.mem_cons_of_mem _ ht)
        refine ⟨v, e, fun hm => ?_, h2⟩
        rcases List.mem_cons.1 hm with rfl | hm
        · exact hnd.1 (List.mem_map.2 ⟨t, ht, by rw [e]⟩)
        · exact h1 hm
      fin := fun v hv => by
        rcases D'.fin v hv with h | h
        · exact .inl (List.mem_cons_of_mem _ h)
        · rw [show ids (tat ts 0 :: ts') = (tat ts 0).1 :: ids ts' from rfl, hi] at h
          rcases List.mem_cons.1 h with h | h
          · have : v = i := by simp only at h; omega
            subst this
            exact .inl List.mem_cons_self
          · exact .inr h
      ord := fun u v hu hv => by
        have hv' : v ∉ S := fun h => hv (List.mem_cons_of_mem _ h)
        rcases List.mem_cons.1 hu with rfl | hu
        · exact hmin v hv'
        · exact D.ord u v hu hv'
      relax := fun u v hu hv ha hp => by
        rcases List.mem_cons.1 hu with rfl | hu
        · exact absurd ⟨rfl, G.sym _ _ hiop hv ha⟩ hp
        · exact D.relax u v hu hv ha (fun x => x)
      from_ := fun v h1 h2 h3 => by
        obtain ⟨u, h4, h5⟩ := D.from_ v h1 h2 h3
        exact ⟨u, List.mem_cons_of_mem _ h4, h5⟩
      low := fun v hv => by
        have := D.low v hv
        simp only [List.length_cons]
        push_cast
        omega }

/-- What a turn of one place's distance does. -/
theorem dij_turn {i j : Nat} {x : Int} (D : Dij G K s far ts S pend) (hi : i ∈ S) (htop : ∀ u, u ∈ S → far u ≤ far i) (hlow : far i + 65535 ≤ 65535 * (S.length : Int)) (hs : S.length ≤ 1000000)
    (hj : G.op j = true) (ha : i ∈ G.adj j) (hx : x = far i + G.cost j) (hlt : x < far j)
    (hnd : (ids ts').Nodup) (hth : ∀ t, t ∈ ts' → t = ((j : Int), ((x, 0), K j)) ∨ t ∈ ts ∧ t.1 ≠ (j : Int)) (hid : ∀ v : Int, v = j ∨ v ∈ ids ts → v ∈ ids ts') :
    j ∉ S ∧ x < infI ∧ Dij G K s (updF far j x) ts' S (fun u v => pend u v ∧ ¬ (u = i ∧ v = j)) := by
  have hp := G.pos j hj
  have ht := G.top j hj
  have hn := D.nn i
  have hjS : j ∉ S := fun h => by have := htop j h; omega
  have hxi : x < infI := by have := D.le j; omega
  have hjs : j ≠ s := fun e => by subst e; have := D.start; omega
  have hne : ∀ u, u ∈ S → u ≠ j := fun u hu e => hjS (e ▸ hu)
  refine ⟨hjS, hxi, ?_⟩
  exact {
    nn := fun v => by unfold updF; split; · omega
                      · exact D.nn v
    le := fun v => by unfold updF; split; · omega
                      · exact D.le v
    shut := fun v hv => by
      rw [updF_ne _ _ (fun e => by subst e; rw [hj] at hv; cases hv)]
      exact D.shut v hv
    start := by rw [updF_ne _ _ (fun e => hjs e.symm)]; exact D.start
    nodupS := D.nodupS
    inS := fun v hv => by rw [updF_ne _ _ (hne v hv)]; exact D.inS v hv
    nodupT := hnd
    thing := fun t h => by
      rcases hth t h with rfl | ⟨h1, h2⟩
      · exact ⟨j, by rw [updF_same], hjS, by rw [updF_same]; exact hxi⟩
      · obtain ⟨v, e, h3, h4⟩ := D.thing t h1
        have : v ≠ j := fun h => h2 (by rw [e, h])
        exact ⟨v, by rw [updF_ne _ _ this]; exact e, h3, by rw [updF_ne _ _ this]; exact h4⟩
    fin := fun v hv => by
      by_cases e : v = j
      · exact .inr (hid _ (.inl (by rw [e])))
      · rw [updF_ne _ _ e] at hv
        exact (D.fin v hv).imp id fun k => hid _ (.inr k)
    ord := fun u v hu hv => by
      rw [updF_ne _ _ (hne u hu)]
      by_cases e : v = j
      · subst e; rw [updF_same]; have := htop u hu; omega
      · rw [updF_ne _ _ e]; exact D.ord u v hu hv
    relax := fun u v hu hv hb hq => by
      rw [updF_ne _ _ (hne u hu)]
      by_cases e : v = j
      · subst e
        rw [updF_same]
        by_cases eu : u = i
        · subst eu; omega
        · have := D.relax u v hu hv hb fun h => hq ⟨h, fun k => eu k.1⟩
          omega
      · rw [updF_ne _ _ e]
        exact D.relax u v hu hv hb fun h => hq ⟨h, fun k => e k.2⟩
    from_ := fun v h1 h2 h3 => by
      by_cases e : v = j
      · subst e
        exact ⟨i, hi, ha, by rw [updF_ne _ _ (hne i hi), updF_same, hx]⟩
      · rw [updF_ne _ _ e] at h3 ⊢
        obtain ⟨u, h4, h5, h6⟩ := D.from_ v h1 h2 h3
        exact ⟨u, h4, h5, by rw [updF_ne _ _ (hne u h4)]; exact h6⟩
    low := fun v hv => by
      by_cases e : v = j
      · subst e; rw [updF_same]; omega
      · rw [updF_ne _ _ e] at hv ⊢; exact D.low v hv }

theorem Dij.ids_fin (D : Dij G K s far ts S pend) {v : Nat} (h : (v : Int) ∈ ids ts) : v ∉ S ∧ far v < infI := by
  obtain ⟨t, ht, he⟩ := List.mem_map.1 h
  obtain ⟨v', e, h1, h2⟩ := D.thing t ht
  rw [e] at he
  have : v' = v := by simp only at he; omega
  subst this
  exact ⟨h1, h2⟩

theorem dij_push {i j : Nat} {x : Int} (D : Dij G K s far ts S pend) (hi : i ∈ S) (htop : ∀ u, u ∈ S → far u ≤ far i) (hlow : far i + 65535 ≤ 65535 * (S.length : Int)) (hs : S.length ≤ 1000000)
    (hj : G.op j = true) (ha : i ∈ G.adj j) (hx : x = far i + G.cost j) (hinf : far j = infI) (hp : ts'.Perm (ts ++ [((j : Int), ((x, 0), K j))])) :
    Dij G K s (updF far j x) ts' S (fun u v => pend u v ∧ ¬ (u = i ∧ v = j)) := by
  have ht := G.top j hj
  have hj' : (j : Int) ∉ ids ts := fun h => by have := (D.ids_fin h).2; omega
  refine (dij_turn (ts' := ts ++ [((j : Int), ((x, 0), K j))]) D hi htop hlow hs hj ha hx (by have : infI = 18446744073709551615 := rfl; omega) ?_ ?_ ?_).2.2.perm hp
  · rw [show ids (ts ++ [((j : Int), ((x, 0), K j))]) = ids ts ++ [(j : Int)] by simp [ids]]
    refine List.nodup_append.2 ⟨D.nodupT, by simp, fun a h1 b h2 => ?_⟩
    simp only [List.mem_singleton] at h2
    subst h2
    exact fun e => hj' (e ▸ h1)
  · intro t h
    rcases List.mem_append.1 h with h | h
    · exact .inr ⟨h, fun e => hj' (e ▸ List.mem_map.2 ⟨t, h, rfl⟩)⟩
    · exact .inl (by simpa using h)
  · intro v h
    rw [show ids (ts ++ [((j : Int), ((x, 0), K j))]) = ids ts ++ [(j : Int)] by simp [ids]]
    rcases h with rfl | h
    · simp
    · exact List.mem_append.2 (.inl h)

/-- A place that waits has its thing in the heap. -/
theorem dij_waits {i j : Nat} {x : Int} (D : Dij G K s far ts S pend) (htop : ∀ u, u ∈ S → far u ≤ far i) (hj : G.op j = true) (hx : x = far i + G.cost j) (hinf : far j < infI) (hlt : x < far j) :
    ∃ k, k < ts.length ∧ tat ts k = ((j : Int), ((far j, 0), K j)) := by
  have hp := G.pos j hj
  rcases D.fin j hinf with h | h
  · have := htop j h; omega
  · obtain ⟨t, ht, he⟩ := List.mem_map.1 h
    obtain ⟨v', e, h1, h2⟩ := D.thing t ht
    rw [e] at he
    have : v' = j := by simp only at he; omega
    subst this
    obtain ⟨k, hk, hkt⟩ := List.mem_iff_getElem.1 ht
    exact ⟨k, hk, by rw [tat_lt hk, hkt, e]⟩

theorem dij_lower {i j k : Nat} {x : Int} (D : Dij G K s far ts S pend) (hi : i ∈ S) (htop : ∀ u, u ∈ S → far u ≤ far i) (hlow : far i + 65535 ≤ 65535 * (S.length : Int)) (hs : S.length ≤ 1000000)
    (hj : G.op j = true) (ha : i ∈ G.adj j) (hx : x = far i + G.cost j) (hlt : x < far j) (hk : k < ts.length) (hat : tat ts k = ((j : Int), ((far j, 0), K j))) (hp : ts'.Perm (ts.set k ((j : Int), ((x, 0), K j)))) :
    Dij G K s (updF far j x) ts' S (fun u v => pend u v ∧ ¬ (u = i ∧ v = j)) := by
  have hids : ids (ts.set k ((j : Int), ((x, 0), K j))) = ids ts := by
    unfold ids
    apply List.ext_getElem?
    intro m
    rw [List.getElem?_map, List.getElem?_map, List.getElem?_set]
    by_cases e : k = m
    · subst e
      have : ts[k] = ((j : Int), ((far j, 0), K j)) := by rw [← tat_lt hk]; exact hat
      simp [hk, this]
    · simp [e]
  refine (dij_turn (ts' := ts.set k ((j : Int), ((x, 0), K j))) D hi htop hlow hs hj ha hx hlt (by rw [hids]; exact D.nodupT) ?_ ?_).2.2.perm hp
  · intro t h
    obtain ⟨m, hm, he⟩ := List.mem_iff_getElem.1 h
    rw [List.length_set] at hm
    rw [List.getElem_set] at he
    split at he
    · exact .inl he.symm
    · next hkm =>
      refine .inr ⟨he ▸ List.getElem_mem hm, fun e => hkm ?_⟩
      have hnd := D.nodupT
      have a1 : (ids ts)[k]'(by rw [ids_len]; exact hk) = (j : Int) := by
        have := ids_get hk
        rw [hat] at this
        exact (List.getElem?_eq_some_iff.1 this).2
      have a2 : (ids ts)[m]'(by rw [ids_len]; exact hm) = (j : Int) := by
        have := ids_get hm
        rw [tat_lt hm, he, e] at this
        exact (List.getElem?_eq_some_iff.1 this).2
      exact (List.getElem_inj (h₀ := by rw [ids_len]; exact hk) (h₁ := by rw [ids_len]; exact hm) hnd).1 (a1.trans a2.symm)
  · intro v h
    rw [hids]
    rcases h with rfl | h
    · have := ids_get hk
      rw [hat] at this
      exact List.mem_of_getElem? this
    · exact h

theorem dij_skip {i j : Nat} (D : Dij G K s far ts S pend) (h : far j ≤ far i + G.cost j) : Dij G K s far ts S (fun u v => pend u v ∧ ¬ (u = i ∧ v = j)) :=
  { D with
    relax := fun u v hu hv ha hp => by
      by_cases e : u = i ∧ v = j
      · obtain ⟨rfl, rfl⟩ := e; exact h
      · exact D.relax u v hu hv ha fun k => hp ⟨k, e⟩ }

theorem nodup_sub {α : Type} [DecidableEq α] : ∀ {l m : List α}, l.Nodup → (∀ v, v ∈ l → v ∈ m) → l.length ≤ m.length
  | [], _, _, _ => Nat.zero_le _
  | a :: l, m, h, hb => by
    rw [List.nodup_cons] at h
    have hm := hb a List.mem_cons_self
    have := nodup_sub (l := l) (m := m.erase a) h.2 fun v hv => (List.mem_erase_of_ne (fun e : v = a => h.1 (by rw [← e]; exact hv))).2 (hb v (List.mem_cons_of_mem _ hv))
    rw [List.length_erase_of_mem hm] at this
    have : 0 < m.length := List.length_pos_of_mem hm
    simp only [List.length_cons]
    omega
theorem nodup_le {l : List Nat} {n : Nat} (h : l.Nodup) (hb : ∀ v, v ∈ l → v < n) : l.length ≤ n := by
  have := nodup_sub h (m := List.range n) fun v hv => List.mem_range.2 (hb v hv)
  simpa using this

theorem Dij.few (D : Dij G K s far ts S pend) : S.length ≤ G.n := nodup_le D.nodupS fun v hv => G.lt v (D.open_ (D.inS v hv))

theorem Dij.waits (D : Dij G K s far ts S pend) : ts.length ≤ G.n := by
  have := nodup_sub D.nodupT (m := (List.range G.n).map (fun v : Nat => (v : Int))) fun t ht => by
    obtain ⟨x, hx, he⟩ := List.mem_map.1 ht
    obtain ⟨v, e, _, h2⟩ := D.thing x hx
    exact List.mem_map.2 ⟨v, List.mem_range.2 (G.lt v (D.open_ h2)), by rw [← he, e]⟩
  rw [ids_len] at this
  simpa using this

theorem dij_end (D : Dij G K s far [] S (fun _ _ => False)) : IsFar G s far ∧ FarLow G far := by
  have hS : ∀ v, far v < infI → v ∈ S := fun v hv => (D.fin v hv).resolve_right (by simp [ids])
  refine ⟨⟨fun _ => D.start, D.shut, D.nn, D.le, fun v ho _ u hu huo hf => ?_, fun v ho hs hf => ?_⟩, fun v hv => ?_⟩
  · exact D.relax u v (hS u (by have := G.pos v ho; omega)) ho hu (fun x => x)
  · obtain ⟨u, h1, h2, h3⟩ := D.from_ v ho hs hf
    exact ⟨u, h2, D.open_ (D.inS u h1), h3⟩
  · have := D.low v hv
    have := D.few
    omega
end Go.Proofs.Ytkonojjillcfiaa

/- The map's cells as a net. -/
namespace Go.Proofs.Ytkonojjillcfiaa

/-- A field that may be, and a box on its map. -/
structure LandP (W H : Int) (l : List Int) (bx byy bw bh : Int) : Prop where
  may : mayB W H = true
  len : (l.length : Int) = W * H
  u16 : U16s l
  fits : fitsR W H bx byy bw bh = true
theorem LandAt.plain {w : World} {W H : Int} {a : Option Addr} {l : List Int} {bx byy bw bh : Int} (L : LandAt w W H a l bx byy bw bh) : LandP W H l bx byy bw bh := ⟨L.may, L.len, L.u16, L.fits⟩

def vx (W : Int) (v : Nat) : Int := (v : Int) % W
def vy (W : Int) (v : Nat) : Int := (v : Int) / W
def idxN (W : Int) (p : Cell) : Nat := (p.2 * W + p.1).toNat

theorem idx_v {W : Int} (hW : 1 ≤ W) (v : Nat) : idxN W (vx W v, vy W v) = v := by
  unfold idxN vx vy
  have := Int.mul_ediv_add_emod (v : Int) W
  rw [Int.mul_comm] at this
  simp only
  omega
theorem idx_int {W x y : Int} (hx : 0 ≤ x) (hW : 1 ≤ W) (hy : 0 ≤ y) : ((idxN W (x, y) : Nat) : Int) = y * W + x := by
  unfold idxN
  have := Int.mul_nonneg hy (show 0 ≤ W by omega)
  simp only
  omega
theorem vx_idx {W x y : Int} (hx : 0 ≤ x) (hxW : x < W) (hy : 0 ≤ y) : vx W (idxN W (x, y)) = x := by
  unfold vx
  rw [idx_int hx (by omega) hy, Int.add_comm, Int.add_mul_emod_self_right]
  exact Int.emod_eq_of_lt hx hxW
theorem vy_idx {W x y : Int} (hx : 0 ≤ x) (hxW : x < W) (hy : 0 ≤ y) : vy W (idxN W (x, y)) = y := by
  unfold vy
  rw [idx_int hx (by omega) hy, Int.add_comm, Int.add_mul_ediv_right _ _ (by omega), Int.ediv_eq_zero_of_lt hx hxW]
  omega
theorem v_bd {W H : Int} (hW : 1 ≤ W) {v : Nat} (hv : (v : Int) < W * H) : 0 ≤ vx W v ∧ vx W v < W ∧ 0 ≤ vy W v ∧ vy W v < H := by
  unfold vx vy
  refine ⟨Int.emod_nonneg _ (by omega), Int.emod_lt_of_pos _ (by omega), Int.ediv_nonneg (by omega) (by omega), ?_⟩
  exact Int.ediv_lt_of_lt_mul (by omega) (by rw [Int.mul_comm]; exact hv)

theorem mem_nbC {op : Int → Int → Bool} {x y : Int} {p : Cell} : ∀ {n : Nat}, p ∈ nbC op x y n ↔ ∃ k, k < n ∧ op (x + dirX k) (y + dirY k) = true ∧ p = (x + dirX k, y + dirY k)
  | 0 => by simp [nbC]
  | n + 1 => by
    unfold nbC
    rw [List.mem_append, mem_nbC]
    constructor
    · rintro (⟨k, h1, h2⟩ | h)
      · exact ⟨k, by omega, h2⟩
      · split at h
        · next ho => exact ⟨n, by omega, ho, by simpa using h⟩
        · cases h
    · rintro ⟨k, h1, h2, h3⟩
      by_cases e : k = n
      · subst e; right; rw [if_pos h2, h3]; simp
      · left; exact ⟨k, by omega, h2, h3⟩

def opV (op : Int → Int → Bool) (W : Int) (N : Nat) (v : Nat) : Bool := decide (v < N) && op (vx W v) (vy W v)
def adjV (op : Int → Int → Bool) (W : Int) (v : Nat) : List Nat := (nbC op (vx W v) (vy W v) 4).map (idxN W)
def opp (k : Nat) : Nat := match k with | 0 => 2 | 1 => 3 | 2 => 0 | _ => 1
theorem opp_lt {k : Nat} : opp k < 4 := by unfold opp; split <;> omega
theorem opp_dir {k : Nat} (hk : k < 4) : dirX (opp k) = - dirX k ∧ dirY (opp k) = - dirY k := by
  obtain rfl | rfl | rfl | rfl : k = 0 ∨ k = 1 ∨ k = 2 ∨ k = 3 := by omega
  all_goals (constructor <;> rfl)

section
variable {W H : Int} {l : List Int} {bx byy bw bh : Int}

theorem LandP.wh (L : LandP W H l bx byy bw bh) : 1 ≤ W ∧ W ≤ 256 ∧ 1 ≤ H ∧ H ≤ 256 ∧ (l.length : Int) ≤ 65536 := by
  obtain ⟨a, b, c, d⟩ := mayB_true.1 L.may
  have := mul_bd (a := W) (b := H) (A := 256) (B := 256) (by omega) b (by omega) d
  exact ⟨a, b, c, d, by have := L.len; omega⟩
theorem LandP.in_ (L : LandP W H l bx byy bw bh) {x y : Int} (h : hasB bx byy bw bh x y = true) : 0 ≤ x ∧ x < W ∧ 0 ≤ y ∧ y < H := by
  have := fitsR_true.1 L.fits
  have := hasB_true.1 h
  omega
theorem open_has {x y : Int} (h : openB l W bx byy bw bh x y = true) : hasB bx byy bw bh x y = true ∧ 0 < costI l W (x, y) := by
  simpa [openB] using h
theorem LandP.idx_lt (L : LandP W H l bx byy bw bh) {x y : Int} (h : 0 ≤ x ∧ x < W ∧ 0 ≤ y ∧ y < H) : idxN W (x, y) < l.length := by
  have h1 := idx_bd h.1 h.2.1 h.2.2.1 h.2.2.2
  have h2 := idx_int (W := W) h.1 (by omega) h.2.2.1
  have := L.len
  omega
theorem LandP.v_in (L : LandP W H l bx byy bw bh) {v : Nat} (hv : v < l.length) : 0 ≤ vx W v ∧ vx W v < W ∧ 0 ≤ vy W v ∧ vy W v < H :=
  v_bd L.wh.1 (by have := L.len; omega)
theorem LandP.opV_idx (L : LandP W H l bx byy bw bh) {x y : Int} (h : 0 ≤ x ∧ x < W ∧ 0 ≤ y ∧ y < H) : opV (openB l W bx byy bw bh) W l.length (idxN W (x, y)) = openB l W bx byy bw bh x y := by
  unfold opV
  rw [vx_idx h.1 h.2.1 h.2.2.1, vy_idx h.1 h.2.1 h.2.2.1, decide_eq_true (L.idx_lt h)]
  simp
theorem cost_idx (x y : Int) : costI l W (x, y) = l.getD (idxN W (x, y)) 0 := rfl
theorem LandP.cost_v (L : LandP W H l bx byy bw bh) (v : Nat) : costI l W (vx W v, vy W v) = l.getD v 0 := by
  rw [cost_idx, idx_v L.wh.1]

/-- The map's net. -/
def mapNet (L : LandP W H l bx byy bw bh) : Net where
  n := l.length
  op := opV (openB l W bx byy bw bh) W l.length
  cost v := l.getD v 0
  adj := adjV (openB l W bx byy bw bh) W
  pos v hv := by
    unfold opV at hv
    simp only [Bool.and_eq_true] at hv
    have := (open_has hv.2).2
    rw [L.cost_v] at this
    omega
  top v _ := by
    rw [← L.cost_v]
    exact (costI_bd L.u16 W _).2
  lt v hv := by
    unfold opV at hv
    simp only [Bool.and_eq_true, decide_eq_true_eq] at hv
    exact hv.1
  sym u v hu hv ha := by
    obtain ⟨p, hp, rfl⟩ := List.mem_map.1 ha
    obtain ⟨k, hk, ho, rfl⟩ := mem_nbC.1 hp
    have hin := L.in_ (open_has ho).1
    unfold opV at hv
    simp only [Bool.and_eq_true, decide_eq_true_eq] at hv
    refine List.mem_map.2 ⟨(vx W v, vy W v), mem_nbC.2 ⟨opp k, opp_lt, ?_, ?_⟩, idx_v L.wh.1 v⟩
    · rw [vx_idx hin.1 hin.2.1 hin.2.2.1, vy_idx hin.1 hin.2.1 hin.2.2.1, (opp_dir hk).1, (opp_dir hk).2]
      rw [show vx W v + dirX k + -dirX k = vx W v by omega, show vy W v + dirY k + -dirY k = vy W v by omega]
      exact hv.2
    · rw [vx_idx hin.1 hin.2.1 hin.2.2.1, vy_idx hin.1 hin.2.1 hin.2.2.1, (opp_dir hk).1, (opp_dir hk).2]
      rw [show vx W v + dirX k + -dirX k = vx W v by omega, show vy W v + dirY k + -dirY k = vy W v by omega]

theorem adj_op (L : LandP W H l bx byy bw bh) {u v : Nat} (h : u ∈ (mapNet L).adj v) : (mapNet L).op u = true := by
  obtain ⟨p, hp, rfl⟩ := List.mem_map.1 h
  obtain ⟨k, hk, ho, rfl⟩ := mem_nbC.1 hp
  have hin := L.in_ (open_has ho).1
  show opV _ _ _ _ = true
  rw [L.opV_idx hin]
  exact ho
end
end Go.Proofs.Ytkonojjillcfiaa

/- Walk of slices.Repeat of one uint64. -/
namespace Go.Proofs.Ytkonojjillcfiaa
open Go.RowKit

theorem mask_small (n : Nat) (hn : n ≤ 1000000) : bits .and .u64 (n : Int) 4294967295 = (n : Int) := by
  have h := bits_and_u64_nat n 4294967295 (by omega) (by omega)
  have e : n &&& 4294967295 = n % 4294967296 := Nat.and_two_pow_sub_one_eq_mod n 32
  rw [e, Nat.mod_eq_of_lt (by omega)] at h
  exact h
theorem mask_one : bits .and .u64 1 4294967295 = 1 := by decide +kernel
theorem mask_zero : bits .and .u64 0 4294967295 = 0 := by decide +kernel

theorem mul64_one (n : Nat) (hn : n ≤ 1000000) (w : World) : Calls Try.prog 117 #[.int .u64 1, .int .u64 (n : Int)] w fun e w' => e = .returned (.tuple #[.int .u64 0, .int .u64 (n : Int)]) ∧ w' = w := by
  have a1 := mask_small n hn
  have a2 := mask_one
  have a3 := mask_zero
  have a4 : (n : Int) / 4294967296 = 0 := by omega
  have a5 : IntKind.u64.wrap (n : Int) = (n : Int) := by rw [IntKind.wrap_u64]; omega
  go_enter Try.func117, Try.ntmps117
  go_wp2
  go_ret2
  exact ⟨rfl, rfl⟩

theorem mul_one (n : Nat) (hn : n ≤ 1000000) (w : World) : Calls Try.prog 110 #[.int .u64 1, .int .u64 (n : Int)] w fun e w' => e = .returned (.tuple #[.int .u64 0, .int .u64 (n : Int)]) ∧ w' = w := by
  have H1 := hide (mul64_one n hn w)
  go_enter Try.func110, Try.ntmps110
  go_wp2_with (go_at_call 117; refine (H1.out).mono ?_; rintro e w' ⟨rfl, rfl⟩)
  go_ret2
  exact ⟨rfl, rfl⟩

def u64E : Enc Int := ⟨1, fun x => [.int .u64 x], fun _ => rfl, fun _ u hu => by simp at hu; subst hu; rfl⟩
theorem T_u64s : ElemT Try.prog 76 53 (.int .u64 0) 1 8 := ⟨Try.underlying76, by kernel_rfl, rfl, by decide⟩

theorem u64_flat (l : List Int) : l.flatMap u64E.cells = l.map (Value.int .u64) := by
  induction l with
  | nil => rfl
  | cons a l ih => simp [u64E] at *; exact ih

/-- m times x, and zeroes up to n. -/
def rowU (x : Int) (n m : Nat) : List Value := List.replicate m (.int .u64 x) ++ List.replicate (n - m) (.int .u64 0)
theorem rowU_len {x : Int} {n m : Nat} (h : m ≤ n) : (rowU x n m).length = n := by simp [rowU]; omega
theorem rowU_at {x : Int} {n m k : Nat} (h : k < m) : (rowU x n m)[k]? = some (.int .u64 x) := by
  unfold rowU
  rw [List.getElem?_append_left (by simpa using h)]
  simp [h]
theorem rowU_splice {x : Int} {n m d : Nat} : splice (rowU x n m) m (List.replicate d (.int .u64 x)) = rowU x n (m + d) := by
  unfold splice rowU
  rw [List.take_append_of_le_length (by simp), List.take_of_length_le (by simp), List.drop_append]
  simp only [List.length_replicate, List.drop_replicate]
  rw [show m - (m + d) = 0 by omega, show m + d - m = d by omega, show n - m - d = n - (m + d) by omega]
  simp only [List.replicate_zero, List.nil_append]
  rw [← List.append_assoc, List.replicate_append_replicate]

set_option maxRecDepth 100000 in
theorem repeat_one {w : World} (b : Nat) (x : Int) (n : Nat) (h1 : 1 ≤ n) (hn : n ≤ 100000) (hb : b < w.heap.size) (hx : w.cell? ⟨b, 0, none⟩ = some (.int .u64 x)) :
    Calls Try.prog 94 #[.slice (some ⟨b, 0, none⟩) 1 1, .int .i64 (n : Int)] w fun e w' => ∃ v, e = .returned v ∧ Ext w w' ∧ Own u64E w' w.heap.size 53 v (List.replicate n x) := by
  have H1 := hide (mul_one n (by omega) w)
  have hu := T_u64s.under
  have hinf : (Try.prog.info? 53).map (fun i => (i.zero, i.size, i.bytes)) = some (some (.int .u64 0), 1, 8) := by kernel_rfl
  have hsz : (Try.prog.info? 53).map (·.size) = some 1 := by kernel_rfl
  have hmk := run_make_row' (P := Try.prog) 76 53 (.int .u64 0) 8 hu hinf rfl .i64 .i64 n (by omega) (by omega)
  have e1 : IntKind.i64.wrap (n : Int) = (n : Int) := IntWalk.i64_in _ (by omega)
  have e2 : IntKind.u64.wrap (n : Int) = (n : Int) := by rw [IntKind.wrap_u64]; omega
  have g1 : ¬ ((n : Int) < 0) := by omega
  have g2 : ¬ ((9223372036854775807 : Int) < (n : Int)) := by omega
  have HSZ := hide hsz
  have HU := hide hu
  clear hsz hu hinf
  go_enter Try.func94, Try.ntmps94
  go_upto_region 7 with (first | (go_at_call 110; refine (H1.out).mono ?_; rintro e w' ⟨rfl, hw⟩; rw [hw]; clear hw))
  obtain ⟨w1, hw1⟩ : ∃ w1, w1 = w.alloc (.cells (madeCells #[.int .u64 0] n) 53) := ⟨_, rfl⟩
  have hx1 : Ext w w1 := by rw [hw1]; exact (by (with_reducible (repeat' (first | exact Ext.refl _ | assumption | refine Ext.drew ?_ | refine Ext.drewN ?_ _ | refine Ext.alloc ?_ _ | refine Ext.setCell ?_ ?_ _ | refine Ext.trans ?_ (by assumption)))); all_goals (first | (simp; done) | (simp; omega)))
  have r1 : w1.heap[w.heap.size]? = some (.cells (rowU x n 0).toArray 53 (0, 0)) := by
    rw [hw1, heap_new]
    congr 1
    congr 1
    apply Array.toList_inj.1
    rw [toList_madeCells_one]
    simp [rowU]
  have x1 := (hx1.cell (p := ⟨b, 0, none⟩) hb).trans hx
  rw [← hw1]
  clear hw1 hmk
  have R1 := hide r1
  have X1 := hide x1
  have HX1 := hide hx1
  clear r1 x1 hx1
  have hmin : ([Value.int .u64 x] : List Value).length = Nat.min 1 n := (Nat.min_eq_left h1).symm
  have hfit : 0 + ([Value.int .u64 x] : List Value).length ≤ (rowU x n 0).length := by rw [rowU_len (by omega)]; simp; omega
  have hpos : 0 < ([Value.int .u64 x] : List Value).length → some (⟨w.heap.size, 0, none⟩ : Addr) = some ⟨w.heap.size, 0, none⟩ ∧ ∃ ad, some (⟨b, 0, none⟩ : Addr) = some ad ∧ ∀ j v, ([Value.int .u64 x] : List Value)[j]? = some v → w1.cell? (ad.add j) = some v := fun _ => ⟨rfl, _, rfl, fun j v hj => by
    cases j with
    | zero => simp at hj; subst hj; exact X1.out
    | succ j => simp at hj⟩
  have hone : ∀ v ∈ [Value.int .u64 x], v.oneCell' = true := fun v hv => by simp at hv; subst hv; rfl
  have HP := hide hpos
  have HO := hide hone
  clear hpos hone
  go_wp2_with (with_reducible refine wpList_copy_splice rfl (.tmp 31) (.tmp 32) 76 76 rfl 53 HU.out HSZ.out (some ⟨w.heap.size, 0, none⟩) (some ⟨b, 0, none⟩) n n 1 1 rfl rfl w.heap.size 0 (rowU x n 0) 53 R1.out [.int .u64 x] hmin HP.out hfit HO.out w.heap.size w HX1.out.below (Nat.le_refl _) ?_; intro w2 hg2 hb2; have hb2h := hide hb2; clear hb2)
  have R2 : Hid (w2.heap[w.heap.size]? = some (.cells (rowU x n 1).toArray 53 (0, 0))) := by
    have e := rowU_splice (x := x) (n := n) (m := 0) (d := 1)
    rw [show List.replicate 1 (Value.int .u64 x) = [Value.int .u64 x] from rfl, Nat.zero_add] at e
    rw [← e]
    exact hg2
  clear hg2 R1 X1 HX1 HP HO H1
  go_loopw [8] (fun i wr => ∃ m : Nat, 1 ≤ m ∧ m ≤ n ∧ i = .int .i64 m ∧ wr.heap[w.heap.size]? = some (.cells (rowU x n m).toArray 53 (0, 0)) ∧ Below w.heap.size w wr) (fun i _ => n - (intOf i).toNat)
  case atStart => exact ⟨1, Nat.le_refl _, h1, rfl, R2.out, hb2h.out⟩
  case round =>
    obtain ⟨m, hm1, hmn, rfl, hrow, hbel⟩ := hrel
    have HR := hide hrow
    have HB := hide hbel
    have hz := hbel.size
    clear hrow hbel R2 hb2h
    by_cases hlt : m < n
    · have hli : (m : Int) < (n : Int) := by omega
      have hli0 : (0 : Int) ≤ (m : Int) := by omega
      obtain ⟨d, hd, hd1, hd2⟩ : ∃ d, d = min m (n - m) ∧ 1 ≤ d ∧ m + d ≤ n := ⟨_, rfl, by omega, by omega⟩
      have c1 : (List.replicate d (Value.int .u64 x)).length = Nat.min m (n - m) := by rw [List.length_replicate]; exact hd
      have c2 : m + (List.replicate d (Value.int .u64 x)).length ≤ (rowU x n m).length := by rw [rowU_len hmn, List.length_replicate]; exact hd2
      have c3 := hide (fun (wq : World) (hq : wq.heap[w.heap.size]? = some (.cells (rowU x n m).toArray 53 (0, 0))) => (fun _ => ⟨if_neg (by omega), _, rfl, fun j v hj => by
        rw [List.getElem?_replicate] at hj
        split at hj
        · cases hj
          have : (wq.cell? ((⟨w.heap.size, 0, none⟩ : Addr).add j)) = (rowU x n m)[j]? := by
            rw [show ((⟨w.heap.size, 0, none⟩ : Addr).add j) = ⟨w.heap.size, j, none⟩ by simp [Addr.add]; exact fun h => h.symm]
            simp [World.cell?, hq]
          rw [this]
          exact rowU_at (by omega)
        · cases hj⟩ : 0 < (List.replicate d (Value.int .u64 x)).length → (if n = m then some (⟨w.heap.size, 0, none⟩ : Addr) else some ⟨w.heap.size, m, none⟩) = some ⟨w.heap.size, m, none⟩ ∧ ∃ ad, some (⟨w.heap.size, 0, none⟩ : Addr) = some ad ∧ ∀ j v, (List.replicate d (Value.int .u64 x))[j]? = some v → wq.cell? (ad.add j) = some v))
      have c4 := hide (fun v hv => by rw [List.eq_of_mem_replicate hv]; rfl : ∀ v ∈ List.replicate d (Value.int .u64 x), v.oneCell' = true)
      have HSP := hide (rowU_splice (x := x) (n := n) (m := m) (d := d))
      have c5 := hide c1
      have c6 := hide c2
      clear c1 c2
      go_wp2_with fail
      have HDD := hide hd
      clear hd
      have k1 : IntKind.i64.wrap ((m : Int) + (d : Int)) = (m : Int) + (d : Int) := IntWalk.i64_in _ (by omega)
      have k2 : (List.replicate d (Value.int .u64 x)).length = d := List.length_replicate
      refine wp_region_held_drew (S := (fun _ => True)) (by kernel_rfl) trivial (fun hHeld => ?_)
      (((refine wpAnyH_take (i := 0) (oi := ?g33_o) (v := ?g33_v) ?g33_hi (by kernel_rfl) (by kernel_rfl) (by kernel_rfl) ?g33_hq ?g33_hy (by assumption) ?g33_gr; (case g33_hi => (simp only [List.getElem?_toArray, List.getElem?_cons_zero]; rfl)); (case g33_hq => exact fun _ _ _ h => h); (case g33_hy => (refine Or.inl ⟨by rfl, ?_⟩; intro w hSw; (try dsimp only at hSw); go_simp; try with_reducible rfl)); try simp only [Act.put, List.setIfInBounds_toArray, List.set_cons_zero, List.set_cons_succ])); ((refine wpAnyH_take (i := 1) (oi := ?g34_o) (v := ?g34_v) ?g34_hi (by kernel_rfl) (by kernel_rfl) (by kernel_rfl) ?g34_hq ?g34_hy (by assumption) ?g34_gr; (case g34_hi => (simp only [List.getElem?_toArray, List.getElem?_cons_succ, List.getElem?_cons_zero]; rfl)); (case g34_hq => exact fun _ _ _ h => h); (case g34_hy => (refine Or.inl ⟨by rfl, ?_⟩; intro w hSw; (try dsimp only at hSw); go_simp; try with_reducible rfl)); try simp only [Act.put, List.setIfInBounds_toArray, List.set_cons_zero, List.set_cons_succ])); ((refine wpAnyH_take (i := 2) (oi := ?g35_o) (v := ?g35_v) ?g35_hi (by kernel_rfl) (by kernel_rfl) (by kernel_rfl) ?g35_hq ?g35_hy (by assumption) ?g35_gr; (case g35_hi => (simp only [List.getElem?_toArray, List.getElem?_cons_succ, List.getElem?_cons_zero]; rfl)); (case g35_hq => exact fun _ _ _ h => h); (case g35_hy => (refine Or.inl ⟨by rfl, ?_⟩; intro w hSw; (try dsimp only at hSw); go_simp; try with_reducible rfl)); try simp only [Act.put, List.setIfInBounds_toArray, List.set_cons_zero, List.set_cons_succ])); ((refine wpAnyH_take (i := 3) (oi := ?g36_o) (v := ?g36_v) ?g36_hi (by kernel_rfl) (by kernel_rfl) (by kernel_rfl) ?g36_hq ?g36_hy (by assumption) ?g36_gr; (case g36_hi => (simp only [List.getElem?_toArray, List.getElem?_cons_succ, List.getElem?_cons_zero]; rfl)); (case g36_hq => exact fun _ _ _ h => h); (case g36_hy => (refine Or.inl ⟨by rfl, ?_⟩; intro w hSw; (try dsimp only at hSw); go_simp; try with_reducible rfl)); try simp only [Act.put, List.setIfInBounds_toArray, List.set_cons_zero, List.set_cons_succ])); ((refine wpAnyH_take (i := 4) (oi := ?g37_o) (v := ?g37_v) ?g37_hi (by kernel_rfl) (by kernel_rfl) (by kernel_rfl) ?g37_hq ?g37_hy (by assumption) ?g37_gr; (case g37_hi => (simp only [List.getElem?_toArray, List.getElem?_cons_succ, List.getElem?_cons_zero]; rfl)); (case g37_hq => exact fun _ _ _ h => h); (case g37_hy => (refine Or.inl ⟨by rfl, ?_⟩; intro w hSw; (try dsimp only at hSw); go_simp; try with_reducible rfl)); try simp only [Act.put, List.setIfInBounds_toArray, List.set_cons_zero, List.set_cons_succ])); ((refine wpAnyH_take (i := 5) (oi := ?g38_o) (v := ?g38_v) ?g38_hi (by kernel_rfl) (by kernel_rfl) (by kernel_rfl) ?g38_hq ?g38_hy (by assumption) ?g38_gr; (case g38_hi => (simp only [List.getElem?_toArray, List.getElem?_cons_succ, List.getElem?_cons_zero]; rfl)); (case g38_hq => exact fun _ _ _ h => h); (case g38_hy => (refine Or.inl ⟨by rfl, ?_⟩; intro w hSw; (try dsimp only at hSw); go_simp; try with_reducible rfl)); try simp only [Act.put, List.setIfInBounds_toArray, List.set_cons_zero, List.set_cons_succ])); ((refine wpAnyH_take (i := 6) (oi := ?g39_o) (v := ?g39_v) ?g39_hi (by kernel_rfl) (by kernel_rfl) (by kernel_rfl) ?g39_hq ?g39_hy (by assumption) ?g39_gr; (case g39_hi => (simp only [List.getElem?_toArray, List.getElem?_cons_succ, List.getElem?_cons_zero]; rfl)); (case g39_hq => exact fun _ _ _ h => h); (case g39_hy => (refine Or.inl ⟨by rfl, ?_⟩; intro w hSw; (try dsimp only at hSw); go_simp; try with_reducible rfl)); try simp only [Act.put, List.setIfInBounds_toArray, List.set_cons_zero, List.set_cons_succ])))
      refine wpAnyH_ready (rs := [7]) (by kernel_rfl) (by simp) ?_
      refine AllReadyH.cons (o := ?go) ?ghi (fun K hK => ?_) AllReadyH.nil
      case ghi => (simp only [List.getElem?_toArray, List.getElem?_cons_succ, List.getElem?_cons_zero]; rfl)
      refine step_copy_splice rfl (.tmp 41) (.tmp 44) 76 76 rfl 53 HU.out HSZ.out (if n = m then some (⟨w.heap.size, 0, none⟩ : Addr) else some ⟨w.heap.size, m, none⟩) (some ⟨w.heap.size, 0, none⟩) (n - m) (n - m) m n rfl rfl w.heap.size m (rowU x n m) 53 HR.out (List.replicate d (.int .u64 x)) c5.out (c3.out _ HR.out) c6.out c4.out w.heap.size w HB.out.drew (Nat.le_refl _) ?_
      intro w4 hg4 hb4
      refine hK.out _ _ trivial (fun hHeld => ?_)
      clear hK K
      simp only [Act.put, List.setIfInBounds_toArray, List.set_cons_zero, List.set_cons_succ]
      rw [k2]
      (((refine wpAnyH_take (i := 8) (oi := ?g40_o) (v := ?g40_v) ?g40_hi (by kernel_rfl) (by kernel_rfl) (by kernel_rfl) ?g40_hq ?g40_hy (by assumption) ?g40_gr; (case g40_hi => (simp only [List.getElem?_toArray, List.getElem?_cons_succ, List.getElem?_cons_zero]; rfl)); (case g40_hq => exact fun _ _ _ h => h); (case g40_hy => (refine Or.inl ⟨by rfl, ?_⟩; intro w hSw; (try dsimp only at hSw); go_simp; try with_reducible rfl)); try simp only [Act.put, List.setIfInBounds_toArray, List.set_cons_zero, List.set_cons_succ])); ((refine wpAnyH_take (i := 9) (oi := ?g41_o) (v := ?g41_v) ?g41_hi (by kernel_rfl) (by kernel_rfl) (by kernel_rfl) ?g41_hq ?g41_hy (by assumption) ?g41_gr; (case g41_hi => (simp only [List.getElem?_toArray, List.getElem?_cons_succ, List.getElem?_cons_zero]; rfl)); (case g41_hq => exact fun _ _ _ h => h); (case g41_hy => (refine Or.inl ⟨by rfl, ?_⟩; intro w hSw; (try dsimp only at hSw); go_simp; try with_reducible rfl)); try simp only [Act.put, List.setIfInBounds_toArray, List.set_cons_zero, List.set_cons_succ])))
      refine wpAnyH_done (by kernel_rfl) ?_ _
      have HG4 := hide hg4
      have HB4 := hide hb4
      clear hg4 hb4
      go_wp2
      go_roundw
      case rel => exact ⟨m + d, by omega, hd2, by go_num, by rw [← HSP.out]; exact HG4.out.out, HB4.out⟩
      case measure => simp [intOf]; omega
    · obtain rfl : m = n := by omega
      go_wp2
      go_ret
      exact ⟨_, rfl, HB.out, by
        have hrw := HR.out
        unfold Own
        rw [List.length_replicate, u64_flat, List.map_replicate]
        refine ⟨by simp [u64E], .inr ⟨w.heap.size, m, _, rfl, Nat.le_refl _, hrw, Nat.le_refl _, by unfold maxLen; omega, by simp [rowU, u64E], by simp [rowU, u64E]⟩⟩⟩
end Go.Proofs.Ytkonojjillcfiaa
