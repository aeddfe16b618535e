/- Part of a proof: Field RefC PlawC. -/
import Derived.Test.YtaellcgglldjaaaGreatHierBacksQ02
import Derived.Test.YtaellcgglldjaaaGreatHierBacksQ01
import Derived.Test.YtaellcgglldjaaaGreatHierBacksQ03
set_option linter.all false
set_option linter.unusedVariables false
set_option linter.unusedSimpArgs false
namespace Go.Proofs.YtaellcgglldjaaaGreat
open Go.RowKit
def Row16 (w : World) (a : Option Addr) (l : List Int) : Prop := 0 < l.length → ∃ b off, a = some ⟨b, off, none⟩ ∧ b < w.heap.size ∧ ∀ k (h : k < l.length), w.cell? ⟨b, off + k, none⟩ = some (.int .u16 l[k])
theorem Row16.ext {w w' : World} {a : Option Addr} {l : List Int} (h : Row16 w a l) (e : Ext w w') : Row16 w' a l := fun h0 => by
 obtain ⟨b, off, ha, hb, hc⟩ := h h0
 exact ⟨b, off, ha, Nat.lt_of_lt_of_le hb e.size, fun k hk => (e.cell (p := ⟨b, off + k, none⟩) hb).trans (hc k hk)⟩
def U16s (l : List Int) : Prop := ∀ x ∈ l, 0 ≤ x ∧ x ≤ 65535
def checkE (W H : Int) (n : Nat) : Int := if mayB W H = true then (if (n : Int) = W * H then 0 else 12) else 10
theorem checkE_ok {W H : Int} {n : Nat} : checkE W H n = 0 ↔ mayB W H = true ∧ (n : Int) = W * H := by
 unfold checkE
 split
 ·split <;> simp [*]
 ·simp [*]
theorem gCheck_any (W H : Int) (a : Option Addr) (n c : Nat) (w : World) :
  Calls Tryz.prog 34 #[.agg #[.int .i64 W, .int .i64 H, .slice a n c]] w fun e w' => e = .returned (.int .i64 (checkE W H n)) ∧ Ext w w' := by
 cases hm : mayB W H
 ·have e0 : checkE W H n = 10 := by simp [checkE, hm]
  rw [e0]; clear e0
  go_enter Tryz.func34, Tryz.ntmps34
  go_wp2_with (go_at_call 76; refine (may_any _ _ _).mono ?_; rintro e w1 ⟨rfl, hb1⟩; obtain ⟨hc1, hf1⟩ := hb1.cells; have hz1 := hb1.size; (repeat (first | rw [World.size_alloc] at hz1 | rw [World.size_drew] at hz1)); have z1_0 : w.heap.size < w1.heap.size := (by omega))
  go_ret
  exact ⟨rfl, z_x⟩
 ·obtain ⟨h1, h2, h3, h4⟩ := mayB_true.1 hm
  have hb := mul_bd (a := W) (b := H) (A := 256) (B := 256) (by omega) h2 (by omega) h4
  have k1 : IntKind.i64.wrap (W * H) = W * H := IntWalk.i64_in _ (by omega)
  by_cases hl : (n : Int) = W * H
  ·have e0 : checkE W H n = 0 := by simp [checkE, hm, hl]
   rw [e0]; clear e0
   have hl' : ((n : Int) != W * H) = false := by simpa using hl
   clear hl
   go_enter Tryz.func34, Tryz.ntmps34
   go_wp2_with (go_at_call 76; refine (may_any _ _ _).mono ?_; rintro e w1 ⟨rfl, hb1⟩; obtain ⟨hc1, hf1⟩ := hb1.cells; have hz1 := hb1.size; (repeat (first | rw [World.size_alloc] at hz1 | rw [World.size_drew] at hz1)); have z1_0 : w.heap.size < w1.heap.size := (by omega))
   go_ret
   exact ⟨rfl, z_x⟩
  ·have e0 : checkE W H n = 12 := by simp [checkE, hm, hl]
   rw [e0]; clear e0
   have hl' : ((n : Int) != W * H) = true := by simpa using hl
   clear hl
   go_enter Tryz.func34, Tryz.ntmps34
   go_wp2_with (go_at_call 76; refine (may_any _ _ _).mono ?_; rintro e w1 ⟨rfl, hb1⟩; obtain ⟨hc1, hf1⟩ := hb1.cells; have hz1 := hb1.size; (repeat (first | rw [World.size_alloc] at hz1 | rw [World.size_drew] at hz1)); have z1_0 : w.heap.size < w1.heap.size := (by omega))
   go_ret
   exact ⟨rfl, z_x⟩
theorem r01May_any (W H : Int) (w : World) : Calls Tryz.prog 127 #[.agg #[.int .i64 W, .int .i64 H]] w fun e w' => e = .returned (.bool (mayB W H)) ∧ Ext w w' := by
 go_enter Tryz.func127, Tryz.ntmps127
 go_wp2
 all_goals go_ret
 all_goals exact ⟨by first | (simp [mayB, betw, *]; done) | (simp [mayB, betw]; omega) | (simp [mayB, betw, *]; omega), z_x⟩
theorem r04Check_any (W H : Int) (a : Option Addr) (n c : Nat) (w : World) :
  Calls Tryz.prog 74 #[.agg #[.int .i64 W, .int .i64 H, .slice a n c]] w fun e w' => e = .returned (.int .i64 (checkE W H n)) ∧ Ext w w' := by
 cases hm : mayB W H
 ·have e0 : checkE W H n = 10 := by simp [checkE, hm]
  rw [e0]; clear e0
  go_enter Tryz.func74, Tryz.ntmps74
  go_wp2_with (go_at_call 127; refine (r01May_any _ _ _).mono ?_; rintro e w1 ⟨rfl, hb1⟩; obtain ⟨hc1, hf1⟩ := hb1.cells; have hz1 := hb1.size; (repeat (first | rw [World.size_alloc] at hz1 | rw [World.size_drew] at hz1)); have z1_0 : w.heap.size < w1.heap.size := (by omega))
  go_ret
  exact ⟨rfl, z_x⟩
 ·obtain ⟨h1, h2, h3, h4⟩ := mayB_true.1 hm
  have hb := mul_bd (a := W) (b := H) (A := 256) (B := 256) (by omega) h2 (by omega) h4
  have k1 : IntKind.i64.wrap (W * H) = W * H := IntWalk.i64_in _ (by omega)
  by_cases hl : (n : Int) = W * H
  ·have e0 : checkE W H n = 0 := by simp [checkE, hm, hl]
   rw [e0]; clear e0
   have hl' : ((n : Int) != W * H) = false := by simpa using hl
   clear hl
   go_enter Tryz.func74, Tryz.ntmps74
   go_wp2_with (go_at_call 127; refine (r01May_any _ _ _).mono ?_; rintro e w1 ⟨rfl, hb1⟩; obtain ⟨hc1, hf1⟩ := hb1.cells; have hz1 := hb1.size; (repeat (first | rw [World.size_alloc] at hz1 | rw [World.size_drew] at hz1)); have z1_0 : w.heap.size < w1.heap.size := (by omega))
   go_ret
   exact ⟨rfl, z_x⟩
  ·have e0 : checkE W H n = 12 := by simp [checkE, hm, hl]
   rw [e0]; clear e0
   have hl' : ((n : Int) != W * H) = true := by simpa using hl
   clear hl
   go_enter Tryz.func74, Tryz.ntmps74
   go_wp2_with (go_at_call 127; refine (r01May_any _ _ _).mono ?_; rintro e w1 ⟨rfl, hb1⟩; obtain ⟨hc1, hf1⟩ := hb1.cells; have hz1 := hb1.size; (repeat (first | rw [World.size_alloc] at hz1 | rw [World.size_drew] at hz1)); have z1_0 : w.heap.size < w1.heap.size := (by omega))
   go_ret
   exact ⟨rfl, z_x⟩
theorem idx_bd {W H x y : Int} (h1 : 0 ≤ x) (h2 : x < W) (h3 : 0 ≤ y) (h4 : y < H) : 0 ≤ y * W ∧ 0 ≤ y * W + x ∧ y * W + x < W * H := by
 have a := Int.mul_nonneg h3 (show 0 ≤ W by omega)
 have b : y * W ≤ (H - 1) * W := Int.mul_le_mul_of_nonneg_right (by omega) (by omega)
 rw [Int.sub_mul, Int.mul_comm H] at b
 omega
def costI (l : List Int) (W : Int) (p : Cell) : Int := l.getD (p.2 * W + p.1).toNat 0
theorem costI_bd {l : List Int} (h : U16s l) (W : Int) (p : Cell) : 0 ≤ costI l W p ∧ costI l W p ≤ 65535 := by
 unfold costI
 rw [List.getD_eq_getElem?_getD]
 cases hh : l[(p.2 * W + p.1).toNat]? with
 | none => simp
 | some x => exact h x (List.mem_of_getElem? hh)
theorem cost_cell {w : World} {a : Option Addr} {l : List Int} (h : Row16 w a l) {W H x y : Int} (hl : (l.length : Int) = W * H) (h1 : 0 ≤ x) (h2 : x < W) (h3 : 0 ≤ y) (h4 : y < H) :
  ∃ b off, a = some ⟨b, off, none⟩ ∧ b < w.heap.size ∧ w.cell? ⟨b, off + (y * W + x).toNat, none⟩ = some (.int .u16 (costI l W (x, y))) := by
 have hb := idx_bd h1 h2 h3 h4
 have hk : (y * W + x).toNat < l.length := by omega
 obtain ⟨b, off, ha, hlt, hc⟩ := h (by omega)
 refine ⟨b, off, ha, hlt, ?_⟩
 rw [hc _ hk]
 unfold costI
 simp [List.getD_eq_getElem?_getD, hk]
theorem rCost_any (W H : Int) (a : Option Addr) (l : List Int) (c : Nat) (x y : Int) (w : World) (hm : mayB W H = true) (hl : (l.length : Int) = W * H) (hr : Row16 w a l) (hu : U16s l) (h1 : 0 ≤ x) (h2 : x < W) (h3 : 0 ≤ y) (h4 : y < H) :
  Calls Tryz.prog 20 #[.agg #[.int .i64 W, .int .i64 H, .slice a l.length c], .agg #[.int .i64 x, .int .i64 y]] w fun e w' => e = .returned (.int .u64 (costI l W (x, y))) ∧ Ext w w' := by
 obtain ⟨m1, m2, m3, m4⟩ := mayB_true.1 hm
 obtain ⟨b, off, rfl, hb, hc⟩ := cost_cell hr hl h1 h2 h3 h4
 have cb := costI_bd hu W (x, y)
 have ib := idx_bd h1 h2 h3 h4
 have ib2 : y * W + x < (l.length : Int) := by omega
 have wb := mul_bd (a := W) (b := H) (A := 256) (B := 256) (by omega) m2 (by omega) m4
 have k1 : IntKind.i64.wrap (y * W) = y * W := IntWalk.i64_in _ (by omega)
 have k2 : IntKind.i64.wrap (y * W + x) = y * W + x := IntWalk.i64_in _ (by omega)
 generalize costI l W (x, y) = v at *
 obtain ⟨n, hn⟩ : ∃ n, l.length = n := ⟨_, rfl⟩
 rw [hn] at ib2 ⊢
 clear hr hl hn hu
 go_enter Tryz.func20, Tryz.ntmps20
 go_wp2
 go_ret
 exact ⟨rfl, z_x⟩
theorem eq_size (a b c d : Int) (w : World) : (Op.equalIn 10000 23 (.agg #[.int .i64 a, .int .i64 b]) (.agg #[.int .i64 c, .int .i64 d])).run Tryz.prog w = .ok (a == c && b == d) w := by
 have u : Tryz.prog.underlying 23 = some (.struct (Tryz.prog.fieldsOf 23)) := by kernel_rfl
 have s : Tryz.prog.stoodInHeld 23 = false := by kernel_rfl
 rw [run_equalIn_struct w 9999 23 _ _ u s]
 cases h : a == c <;> cases h' : b == d <;> simp [go_sem, h, h']
end Go.Proofs.YtaellcgglldjaaaGreat

namespace Go.Proofs.YtaellcgglldjaaaGreat
open Go.RowKit
def gidx {α : Type} (p : α → Bool) (l : List α) : Int := match l.findIdx? p with
 | some i => i
 | none => -1
theorem gidx_at {α : Type} {p : α → Bool} {l : List α} {k : Nat} (hk : k < l.length) (h : ∀ j (hj : j < k), p (l[j]'(by omega)) = false) (hp : p l[k] = true) : gidx p l = k := by
 have : l.findIdx? p = some k := by
  rw [List.findIdx?_eq_some_iff_getElem]
  exact ⟨hk, hp, fun j hj => by simpa using h j hj⟩
 simp [gidx, this]
theorem gidx_none {α : Type} {p : α → Bool} {l : List α} (h : ∀ j (hj : j < l.length), p l[j] = false) : gidx p l = -1 := by
 have : l.findIdx? p = none := by
  rw [List.findIdx?_eq_none_iff]
  intro x hx
  obtain ⟨j, hj, rfl⟩ := List.getElem_of_mem hx
  exact h j hj
 simp [gidx, this]
theorem Own.pos {α : Type} {E : Enc α} {w : World} {base : Nat} {e : TypeId} {v : Value} {l : List α} (h : Own E w base e v l) (hl : 0 < l.length) : ∃ g c, v = .slice (some ⟨g, 0, none⟩) l.length c ∧ base ≤ g ∧ g < w.heap.size := by
 rcases h.2 with ⟨_, hn⟩ | ⟨g, cap, cur, hv, hb, hg, _⟩
 ·omega
 ·exact ⟨g, cap, hv, hb, lt_of_block hg⟩
def hasP (x y : Int) (b : Cell × Cell) : Bool := hasB b.1.1 b.1.2 b.2.1 b.2.2 x y
theorem PairsAt.below {w w' : World} {b off : Nat} {l : List (Cell × Cell)} (h : PairsAt w b off l) {B : Nat} (hb : b < B) (he : Below B w w') : PairsAt w' b off l :=
 fun k hk => ⟨(he.cell (p := ⟨b, _, none⟩) hb).trans (h k hk).1, (he.cell (p := ⟨b, _, none⟩) hb).trans (h k hk).2.1, (he.cell (p := ⟨b, _, none⟩) hb).trans (h k hk).2.2.1, (he.cell (p := ⟨b, _, none⟩) hb).trans (h k hk).2.2.2⟩
def boxP (W H s id : Int) : Cell × Cell := ((boxX W s id, boxY W s id), (boxW W s id, boxH W H s id))
theorem div_uniq {x s u : Int} (hs : 0 < s) (h1 : u * s ≤ x) (h2 : x < u * s + s) : x / s = u := by
 have a1 : u ≤ x / s := (Int.le_ediv_iff_mul_le hs).2 h1
 have a2 : x / s < u + 1 := Int.ediv_lt_of_lt_mul hs (by rw [Int.add_mul]; omega)
 omega
theorem x_lt_acr {W s x : Int} (hs : 1 ≤ s) (h0 : 0 ≤ x) (hx : x < W) : x / s < acr W s := by
 unfold acr
 have h1 : x / s ≤ (W - 1) / s := Int.ediv_le_ediv (by omega) (by omega)
 have h2 : (W + s - 1) / s = (W - 1) / s + 1 := by
  rw [show W + s - 1 = (W - 1) + s * 1 from by omega, Int.add_mul_ediv_left _ _ (by omega)]
 omega
theorem hasP_box {W H s x y : Int} (hr : rightB W H s = true) (hi : inB W H x y = true) {id : Int} (h0 : 0 ≤ id) (hid : id < cnt W H s) : hasP x y (boxP W H s id) = true ↔ id = ofN W s x y := by
 obtain ⟨h1, h2, h3, h4, h5, h6⟩ := rightB_true.1 hr
 obtain ⟨_, _, _, _, i1, i2, i3, i4⟩ := inB_true.1 hi
 have b1 := acr_bd W s h5 h6 h1 h2
 unfold hasP boxP
 rw [hasB_true]
 unfold boxW boxH boxX boxY ofN
 have e1 := Int.emod_add_mul_ediv id (acr W s)
 have m0 : 0 ≤ id % acr W s := Int.emod_nonneg _ (by omega)
 have m1 := Int.emod_lt_of_pos id (show 0 < acr W s by omega)
 have q1 := Int.emod_add_mul_ediv x s
 have q2 := Int.emod_lt_of_pos x (show 0 < s by omega)
 have q3 : 0 ≤ x % s := Int.emod_nonneg _ (by omega)
 have p1 := Int.emod_add_mul_ediv y s
 have p2 := Int.emod_lt_of_pos y (show 0 < s by omega)
 have p3 : 0 ≤ y % s := Int.emod_nonneg _ (by omega)
 simp only
 constructor
 ·rintro ⟨g1, g2, g3, g4⟩
  have ex : x / s = id % acr W s := div_uniq (by omega) g1 (by omega)
  have ey : y / s = id / acr W s := div_uniq (by omega) g3 (by omega)
  rw [ex, ey, Int.mul_comm]
  omega
 ·intro he
  have a1 := x_lt_acr (W := W) (s := s) (by omega) i1 i2
  have a2 := Int.ediv_nonneg i1 (show 0 ≤ s by omega)
  have hm : id % acr W s = x / s := by
   rw [he, Int.add_comm, Int.add_mul_emod_self_right]
   exact Int.emod_eq_of_lt a2 a1
  have hd : id / acr W s = y / s := by
   rw [he, Int.add_comm, Int.add_mul_ediv_right _ _ (by omega), Int.ediv_eq_zero_of_lt a2 a1]
   omega
  rw [hm, hd]
  rw [Int.mul_comm s] at q1 p1
  omega
theorem hasP_off {W H s x y : Int} (hr : rightB W H s = true) (hi : inB W H x y = false) {id : Int} (h0 : 0 ≤ id) (hid : id < cnt W H s) : hasP x y (boxP W H s id) = false := by
 obtain ⟨h1, h2, h3, h4, h5, h6⟩ := rightB_true.1 hr
 cases hh : hasP x y (boxP W H s id)
 ·rfl
 ·have bb := box_bd hr h0 hid
  unfold hasP boxP at hh
  rw [hasB_true] at hh
  unfold boxW boxH at hh
  simp only at hh
  have : inB W H x y = true := inB_true.2 ⟨by omega, by omega, by omega, by omega, by omega, by omega, by omega, by omega⟩
  rw [this] at hi
  cases hi
theorem ofN_bd {W H s x y : Int} (hr : rightB W H s = true) (hi : inB W H x y = true) : 0 ≤ ofN W s x y ∧ ofN W s x y < cnt W H s := by
 obtain ⟨h1, h2, h3, h4, h5, h6⟩ := rightB_true.1 hr
 obtain ⟨_, _, _, _, i1, i2, i3, i4⟩ := inB_true.1 hi
 have b1 := acr_bd W s h5 h6 h1 h2
 have a1 := x_lt_acr (W := W) (s := s) (by omega) i1 i2
 have a2 := Int.ediv_nonneg i1 (show 0 ≤ s by omega)
 have c1 := x_lt_acr (W := H) (s := s) (by omega) i3 i4
 have c2 := Int.ediv_nonneg i3 (show 0 ≤ s by omega)
 unfold ofN cnt
 have m1 := Int.mul_nonneg c2 (show 0 ≤ acr W s by omega)
 have m2 : y / s * acr W s ≤ (acr H s - 1) * acr W s := Int.mul_le_mul_of_nonneg_right (by omega) (by omega)
 rw [Int.sub_mul, Int.mul_comm (acr H s)] at m2
 omega
theorem fits_box {W H s id : Int} (hr : rightB W H s = true) (h0 : 0 ≤ id) (hid : id < cnt W H s) : fitsR W H (boxX W s id) (boxY W s id) (boxW W s id) (boxH W H s id) = true := by
 have b := box_bd hr h0 hid
 have z := box_sz hr h0 hid
 unfold fitsR
 unfold boxW boxH at *
 simp only [Bool.and_eq_true, decide_eq_true_eq]
 omega
end Go.Proofs.YtaellcgglldjaaaGreat

namespace Go.Proofs.YtaellcgglldjaaaGreat
open Go.RowKit
theorem mem_opt {b : Bool} {n x : Int} : x ∈ opt b n ↔ b = true ∧ x = n := by cases b <;> simp [opt]
theorem count_opt (b : Bool) (n x : Int) : (opt b n).count x = if b = true ∧ x = n then 1 else 0 := by
 cases b
 ·simp [opt]
 ·simp only [opt, if_true, List.count_cons, List.count_nil, true_and]
  by_cases h : n = x
  ·simp [h]
  ·have h' : ¬ x = n := fun e => h e.symm
   simp [h, h']
theorem hasI_iff {l : List Int} {x : Int} : hasI l x = true ↔ x ∈ l := by simp [hasI]
theorem beside_mem {W H s id x : Int} : x ∈ besideL W H s id ↔ (acr W s ≤ id ∧ x = id - acr W s) ∨ (id % acr W s < acr W s - 1 ∧ x = id + 1) ∨ (id + acr W s < cnt W H s ∧ x = id + acr W s) ∨ (0 < id % acr W s ∧ x = id - 1) := by
 simp only [besideL, List.mem_append, mem_opt, decide_eq_true_eq]
 constructor
 ·rintro (((h | h) | h) | h)
  ·exact .inl h
  ·exact .inr (.inl h)
  ·exact .inr (.inr (.inl h))
  ·exact .inr (.inr (.inr h))
 ·rintro (h | h | h | h)
  ·exact .inl (.inl (.inl h))
  ·exact .inl (.inl (.inr h))
  ·exact .inl (.inr h)
  ·exact .inr h
theorem beside_once {W H s id x : Int} (ha : 1 ≤ acr W s) (h : x ∈ besideL W H s id) : (besideL W H s id).count x = 1 := by
 rw [beside_mem] at h
 have m0 : 0 ≤ id % acr W s := Int.emod_nonneg _ (by omega)
 have m1 := Int.emod_lt_of_pos id (show 0 < acr W s by omega)
 simp only [besideL, List.count_append, count_opt, decide_eq_true_eq]
 generalize acr W s = a at *
 generalize id % a = m at *
 rcases h with h | h | h | h
 all_goals
  (repeat' split) <;> omega
theorem sideL_at (X Y : Int) (n k : Nat) (h : k < n) : (sideL X Y n)[k]? = some ((X - 1, Y + (k : Int)), (X, Y + (k : Int))) := by
 simp [sideL, List.getElem?_map, List.getElem?_range h]
theorem lowL_at (X Y : Int) (n k : Nat) (h : k < n) : (lowL X Y n)[k]? = some ((X + (k : Int), Y - 1), (X + (k : Int), Y)) := by
 simp [lowL, List.getElem?_map, List.getElem?_range h]
theorem in_box {W H s : Int} (hr : rightB W H s = true) {id : Int} (h0 : 0 ≤ id) (hid : id < cnt W H s) {x y : Int} (hx : boxX W s id ≤ x ∧ x < boxX W s id + boxW W s id) (hy : boxY W s id ≤ y ∧ y < boxY W s id + boxH W H s id) :
  inB W H x y = true ∧ ofN W s x y = id := by
 obtain ⟨h1, h2, h3, h4, h5, h6⟩ := rightB_true.1 hr
 have bb := box_bd hr h0 hid
 have hh : hasP x y (boxP W H s id) = true := by
  unfold hasP boxP; rw [hasB_true]; exact ⟨hx.1, hx.2, hy.1, hy.2⟩
 unfold boxW at hx
 unfold boxH at hy
 have hin : inB W H x y = true := inB_true.2 ⟨by omega, by omega, by omega, by omega, by omega, by omega, by omega, by omega⟩
 exact ⟨hin, ((hasP_box hr hin h0 hid).1 hh).symm⟩
structure Pair (W H s lo hi : Int) : Prop where
 lo0 : 0 ≤ lo
 hi1 : hi < cnt W H s
 way : (hi = lo + 1 ∧ lo % acr W s < acr W s - 1) ∨ hi = lo + acr W s
theorem Pair.lt {W H s lo hi : Int} (hr : rightB W H s = true) (h : Pair W H s lo hi) : lo < hi := by
 obtain ⟨h1, h2, h3, h4, h5, h6⟩ := rightB_true.1 hr
 have b1 := acr_bd W s h5 h6 h1 h2
 rcases h.way with h | h <;> omega
theorem Pair.right {W H s lo : Int} (hr : rightB W H s = true) (h0 : 0 ≤ lo) (hw : lo % acr W s < acr W s - 1) :
  boxX W s (lo + 1) = boxX W s lo + s ∧ boxY W s (lo + 1) = boxY W s lo := by
 obtain ⟨h1, h2, h3, h4, h5, h6⟩ := rightB_true.1 hr
 have b1 := acr_bd W s h5 h6 h1 h2
 have e := Int.emod_add_mul_ediv lo (acr W s)
 have m0 : 0 ≤ lo % acr W s := Int.emod_nonneg _ (by omega)
 have hm : (lo + 1) % acr W s = lo % acr W s + 1 := by
  have : lo + 1 = (lo % acr W s + 1) + acr W s * (lo / acr W s) := by omega
  rw [this, Int.add_mul_emod_self_left]
  exact Int.emod_eq_of_lt (by omega) (by omega)
 have hd : (lo + 1) / acr W s = lo / acr W s := by
  have : lo + 1 = (lo % acr W s + 1) + acr W s * (lo / acr W s) := by omega
  rw [this, Int.add_mul_ediv_left _ _ (by omega), Int.ediv_eq_zero_of_lt (by omega) (by omega)]
  omega
 unfold boxX boxY
 rw [hm, hd, Int.add_mul]
 omega
theorem Pair.low {W H s lo : Int} (hr : rightB W H s = true) : boxX W s (lo + acr W s) = boxX W s lo ∧ boxY W s (lo + acr W s) = boxY W s lo + s := by
 obtain ⟨h1, h2, h3, h4, h5, h6⟩ := rightB_true.1 hr
 have b1 := acr_bd W s h5 h6 h1 h2
 unfold boxX boxY
 have hm : (lo + acr W s) % acr W s = lo % acr W s := Int.add_emod_right _ _
 have hd : (lo + acr W s) / acr W s = lo / acr W s + 1 := by
  have := Int.add_mul_ediv_right lo 1 (show acr W s ≠ 0 by omega)
  rwa [Int.one_mul] at this
 rw [hm, hd, Int.add_mul]
 omega
theorem border_at {W H s lo hi : Int} (hr : rightB W H s = true) (h : Pair W H s lo hi) {k : Nat} {p : Cell × Cell} (hk : (borderL W H s lo hi)[k]? = some p) :
  inB W H p.1.1 p.1.2 = true ∧ inB W H p.2.1 p.2.2 = true ∧ ofN W s p.1.1 p.1.2 = lo ∧ ofN W s p.2.1 p.2.2 = hi ∧
  ((hi = lo + 1 ∧ lo % acr W s < acr W s - 1 ∧ p = ((boxX W s hi - 1, boxY W s lo + (k : Int)), (boxX W s hi, boxY W s lo + (k : Int))) ∧ (k : Int) < boxH W H s lo) ∨
   (boxY W s lo ≠ boxY W s hi ∧ p = ((boxX W s lo + (k : Int), boxY W s hi - 1), (boxX W s lo + (k : Int), boxY W s hi)) ∧ (k : Int) < boxW W s lo)) := by
 obtain ⟨h1, h2, h3, h4, h5, h6⟩ := rightB_true.1 hr
 have b1 := acr_bd W s h5 h6 h1 h2
 have hlt := h.lt hr
 have zl := box_sz hr h.lo0 (by have := h.hi1; omega)
 have zh := box_sz hr (id := hi) (by have := h.lo0; omega) h.hi1
 have bl := box_bd hr h.lo0 (by have := h.hi1; omega)
 have bh := box_bd hr (id := hi) (by have := h.lo0; omega) h.hi1
 by_cases hrow : boxY W s lo = boxY W s hi
 ·rcases h.way with ⟨e, hw⟩ | e
  ·have pr := Pair.right hr h.lo0 hw
   rw [← e] at pr
   unfold borderL at hk
   rw [if_pos hrow] at hk
   have hkn : k < (boxH W H s lo).toNat := by
    have := (List.getElem?_eq_some_iff.1 hk).1
    rwa [sideL_len] at this
   rw [sideL_at _ _ _ _ hkn] at hk
   have hp := (Option.some.inj hk).symm
   subst hp
   have hkH : (k : Int) < boxH W H s lo := by omega
   have A := in_box hr h.lo0 (by have := h.hi1; omega) (x := boxX W s hi - 1) (y := boxY W s lo + (k : Int)) ⟨by omega, by unfold boxW; omega⟩ ⟨by omega, by omega⟩
   have B := in_box hr (id := hi) (by have := h.lo0; omega) h.hi1 (x := boxX W s hi) (y := boxY W s lo + (k : Int)) ⟨by omega, by omega⟩ ⟨by omega, by unfold boxH at hkH ⊢; rw [← hrow]; omega⟩
   exact ⟨A.1, B.1, A.2, B.2, .inl ⟨e, hw, rfl, hkH⟩⟩
  ·have pl := Pair.low (lo := lo) hr
   rw [← e] at pl
   omega
 ·have e : hi = lo + acr W s := by
   rcases h.way with ⟨e, hw⟩ | e
   ·have pr := Pair.right hr h.lo0 hw
    rw [← e] at pr
    exact absurd pr.2.symm hrow
   ·exact e
  have pl := Pair.low (lo := lo) hr
  rw [← e] at pl
  unfold borderL at hk
  rw [if_neg hrow] at hk
  have hkn : k < (boxW W s lo).toNat := by
   have := (List.getElem?_eq_some_iff.1 hk).1
   rwa [lowL_len] at this
  rw [lowL_at _ _ _ _ hkn] at hk
  have hp := (Option.some.inj hk).symm
  subst hp
  have hkW : (k : Int) < boxW W s lo := by omega
  have A := in_box hr h.lo0 (by have := h.hi1; omega) (x := boxX W s lo + (k : Int)) (y := boxY W s hi - 1) ⟨by omega, by omega⟩ ⟨by omega, by unfold boxH; omega⟩
  have B := in_box hr (id := hi) (by have := h.lo0; omega) h.hi1 (x := boxX W s lo + (k : Int)) (y := boxY W s hi) ⟨by omega, by unfold boxW at hkW ⊢; rw [pl.1]; omega⟩ ⟨by omega, by omega⟩
  exact ⟨A.1, B.1, A.2, B.2, .inr ⟨hrow, rfl, hkW⟩⟩
theorem Pair.mem {W H s lo hi : Int} (hr : rightB W H s = true) (h : Pair W H s lo hi) : hi ∈ besideL W H s lo ∧ lo ∈ besideL W H s hi := by
 obtain ⟨h1, h2, h3, h4, h5, h6⟩ := rightB_true.1 hr
 have b1 := acr_bd W s h5 h6 h1 h2
 have hlt := h.lt hr
 have h0 := h.lo0
 have h7 := h.hi1
 rw [beside_mem, beside_mem]
 rcases h.way with ⟨e, hw⟩ | e
 ·refine ⟨.inr (.inl ⟨hw, e⟩), .inr (.inr (.inr ⟨?_, by omega⟩))⟩
  have e' := Int.emod_add_mul_ediv lo (acr W s)
  have m0 : 0 ≤ lo % acr W s := Int.emod_nonneg _ (by omega)
  have : hi = (lo % acr W s + 1) + acr W s * (lo / acr W s) := by omega
  rw [this, Int.add_mul_emod_self_left, Int.emod_eq_of_lt (by omega) (by omega)]
  omega
 ·exact ⟨.inr (.inr (.inl ⟨by omega, e⟩)), .inl ⟨by omega, by omega⟩⟩
theorem beside_self {W H s id : Int} (hr : rightB W H s = true) : hasI (besideL W H s id) id = false := by
 obtain ⟨h1, h2, h3, h4, h5, h6⟩ := rightB_true.1 hr
 have b1 := acr_bd W s h5 h6 h1 h2
 cases h : hasI (besideL W H s id) id
 ·rfl
 ·rw [hasI_iff, beside_mem] at h
  omega
theorem borderL_len {W H s lo hi : Int} (hr : rightB W H s = true) (h0 : 0 ≤ lo) (h1 : lo < cnt W H s) : (borderL W H s lo hi).length ≤ 16 := by
 have z := box_sz hr h0 h1
 unfold borderL
 split
 ·rw [sideL_len]; omega
 ·rw [lowL_len]; omega
theorem near_pair {W H s lo hi : Int} (hr : rightB W H s = true) (h0 : 0 ≤ lo) (hlt : lo < hi) (hid : hi < cnt W H s) : hasI (besideL W H s lo) hi = true ↔ Pair W H s lo hi := by
 obtain ⟨h1, h2, h3, h4, h5, h6⟩ := rightB_true.1 hr
 have b1 := acr_bd W s h5 h6 h1 h2
 rw [hasI_iff, beside_mem]
 constructor
 ·rintro (h | h | h | h)
  ·omega
  ·exact ⟨h0, hid, .inl ⟨h.2, h.1⟩⟩
  ·exact ⟨h0, hid, .inr h.2⟩
  ·omega
 ·intro h
  rcases h.way with h' | h'
  ·exact .inr (.inl ⟨h'.2, h'.1⟩)
  ·exact .inr (.inr (.inl ⟨by omega, h'⟩))
theorem Own.drewN {α : Type} {E : Enc α} {w : World} {base : Nat} {e : TypeId} {v : Value} {l : List α} (h : Own E w base e v l) (n : Nat) : Own E (w.drewN n) base e v l := h
set_option maxRecDepth 100000 in
set_option maxHeartbeats 20000000 in
theorem Border_yes (W H s a b : Int) (w : World) (hr : rightB W H s = true) (h0 : 0 ≤ a) (ha : a < cnt W H s) (h1 : 0 ≤ b) (hb : b < cnt W H s) (hn : hasI (besideL W H s (min a b)) (max a b) = true) :
  Calls Tryz.prog 129 #[.agg #[.int .i64 W, .int .i64 H, .int .i64 s], .int .i64 a, .int .i64 b] w (RetPairs w (borderL W H s (min a b) (max a b)) 0) := by
 have hany : [a, b].any (bad W H s) = false := by simp [bad_false h0 ha, bad_false h1 hb]
 go_enter Tryz.func129, Tryz.ntmps129
 go_upto_region 4 with (first
  | (go_at_call 64; refine (has_ok W H s _ 0 _ [a, b] _ hr hany (by simp) (by simp) (by exact two_at _ _ _ _ _ (by simp))).mono ?_; rintro e w1 ⟨rfl, hb1⟩; obtain ⟨hc1, hf1⟩ := hb1.cells; have hz1 := hb1.size; (repeat (first | rw [World.size_alloc] at hz1 | rw [World.size_drew] at hz1)); have z1_0 : w.heap.size < w1.heap.size := (by omega)))
 have hx1 : Ext w w1 := z_x
 go_cut [1, 2] (fun s1 s2 wx => s1 = .int .i64 (min a b) ∧ s2 = .int .i64 (max a b) ∧ w1 = wx)
 case first =>
  go_wp2
  all_goals go_meet
  all_goals exact ⟨by congr 1; omega, by congr 1; omega, rfl⟩
 case rest =>
  obtain ⟨rfl, rfl, rfl⟩ := hcut
  have l0 : 0 ≤ min a b := by omega
  have l1 : min a b < cnt W H s := by omega
  have l2 : 0 ≤ max a b := by omega
  have l3 : max a b < cnt W H s := by omega
  generalize min a b = lo at *
  generalize max a b = hi at *
  have hlen := besideL_len W H s lo
  go_upto_region 9 with (first
   | (go_at_call 72; refine (Beside_yes W H s lo _ hr l0 l1).mono ?_; rintro e w2 ⟨v, rfl, hb2, hv⟩; have HV := hide hv; clear hv; obtain ⟨hc2, hf2⟩ := hb2.cells; have hz2 := hb2.size; (repeat (first | rw [World.size_alloc] at hz2 | rw [World.size_drew] at hz2)); have z2_0 : w.heap.size < w2.heap.size := (by omega))
   | (go_at_call 170; refine (contains_any hi _ (besideL W H s lo) _ (by omega) HV.out.reads).mono ?_; rintro e w3 ⟨rfl, hb3⟩; obtain ⟨hc3, hf3⟩ := hb3.cells; have hz3 := hb3.size; (repeat (first | rw [World.size_alloc] at hz3 | rw [World.size_drew] at hz3)); have z3_0 : w.heap.size < w3.heap.size := (by omega)))
  have hx13 : Ext w1 w3 := z_x
  have hx3 : Ext w w3 := hx1.trans hx13
  have e0 : w3.cell? ⟨w.heap.size, 0, none⟩ = some (.int .i64 W) := by rw [hx13.cell (p := ⟨w.heap.size, 0, none⟩) z1_0, hc1 _ _ (by simp; omega)]; simp [go_sem]
  have e1 : w3.cell? ⟨w.heap.size, 1, none⟩ = some (.int .i64 H) := by rw [hx13.cell (p := ⟨w.heap.size, 1, none⟩) z1_0, hc1 _ _ (by simp; omega)]; simp [go_sem]
  have e2 : w3.cell? ⟨w.heap.size, 2, none⟩ = some (.int .i64 s) := by rw [hx13.cell (p := ⟨w.heap.size, 2, none⟩) z1_0, hc1 _ _ (by simp; omega)]; simp [go_sem]
  clear hx13 hn hany hb1 hc1 hf1 hx1 hb2 hc2 hf2 hb3 hc3 hf3 HV hlen z1_0 z2_0 hz1 hz2 hz3
  go_cut [12, 13] (fun s12 s13 wx => ∃ p q : Nat, s12 = .pointer (some ⟨p, 0, none⟩) ∧ s13 = .pointer (some ⟨q, 0, none⟩) ∧ p < wx.heap.size ∧ q < wx.heap.size ∧ Ext w wx ∧
   (wx.cell? ⟨p, 0, none⟩ = some (.int .i64 (boxX W s lo)) ∧ wx.cell? ⟨p, 1, none⟩ = some (.int .i64 (boxY W s lo)) ∧ wx.cell? ⟨p, 2, none⟩ = some (.int .i64 (boxW W s lo)) ∧ wx.cell? ⟨p, 3, none⟩ = some (.int .i64 (boxH W H s lo))) ∧
   wx.cell? ⟨q, 0, none⟩ = some (.int .i64 (boxX W s hi)) ∧ wx.cell? ⟨q, 1, none⟩ = some (.int .i64 (boxY W s hi)))
  case first =>
   go_region_held3 (fun W => (∀ b o, b < w3.heap.size → W.cell? ⟨b, o, none⟩ = w3.cell? ⟨b, o, none⟩) ∧ Ext w3 W) (first | with_reducible exact pr_start _ | exact pr_of z_x)
    (first | (go_at_call 65; refine (box_yes W H s _ _ hr (by omega) (by omega)).mono ?_; rintro e w4 ⟨rfl, hb4⟩; obtain ⟨hc4, hf4⟩ := hb4.cells; have hz4 := hb4.size; (repeat (first | rw [World.size_alloc] at hz4 | rw [World.size_drew] at hz4)); (try have zA4 := Nat.lt_of_succ_le hz4); (try have zB4 := Nat.lt_of_succ_le (Nat.le_of_succ_le hz4)); (try have zC4 : w3.heap.size < w4.heap.size := (by omega)); (try have zD4 : w3.heap.size + 1 < w4.heap.size := (by omega)); (try have zE4 : w4.heap.size ≠ w3.heap.size := (by omega)); (try have zF4 : w3.heap.size ≠ w4.heap.size := (by omega)); (try have zG4 : w3.heap.size < w4.heap.size + 1 := (by omega))))
   all_goals
    rename_i hS
    have hX := hx3.trans hS.2
    clear hS
    have ar : ∀ n : Nat, n < n + 1 + 1 := (fun n => by omega)
    go_wp2_with fail
    go_meet
    refine ⟨_, _, rfl, rfl, ?_, ?_, hX, ⟨?_, ?_, ?_, ?_⟩, ?_, ?_⟩
    all_goals first
     | (simp [go_sem, boxW, boxH]; done)
     | (simp [go_sem, boxW, boxH]; omega)
     | (simp [go_sem, boxW, boxH, *]; done)
     | (simp [go_sem, boxW, boxH, hc4, zA4, zB4]; done)
     | skip
    all_goals ((try unfold boxW); (try unfold boxH); go_simp)
  case rest =>
   clear e0 e1 e2 z3_0 hx3
   obtain ⟨p, q, rfl, rfl, hp, hq, hx, ⟨p0, p1, p2, p3⟩, q0, q1⟩ := hcut
   have hzx := hx.size
   have bl := box_bd hr l0 l1
   have bh := box_bd hr l2 l3
   have sl := box_sz hr l0 l1
   obtain ⟨h1, h2, h3, h4, h5, h6⟩ := rightB_true.1 hr
   cases hrow : (boxY W s lo == boxY W s hi)
   ·have hrow' : ¬ boxY W s lo = boxY W s hi := by simpa using hrow
    have hbl : borderL W H s lo hi = lowL (boxX W s lo) (boxY W s hi) (boxW W s lo).toNat := by unfold borderL; rw [if_neg hrow']
    clear hrow'
    obtain ⟨N, hN⟩ : ∃ N : Nat, boxW W s lo = (N : Int) := ⟨(boxW W s lo).toNat, by omega⟩
    rw [hN] at sl p2 hbl
    rw [Int.toNat_natCast] at hbl
    clear hN
    have HB := hide hbl
    clear hbl
    generalize boxX W s lo = X1 at *
    generalize boxY W s hi = Y2 at *
    go_wp2
    go_loopw [11, 79] (fun out i wr => ∃ k : Nat, k ≤ N ∧ i = .int .i64 k ∧ Own pairE wr wc.heap.size 225 out (lowL X1 Y2 k) ∧ Below wc.heap.size wc wr) (fun _ i _ => N - (intOf i).toNat)
    case atStart => exact ⟨0, by omega, rfl, Own.nil _ _ _ _, Below.refl _ _⟩
    case round =>
     obtain ⟨k, hk, rfl, hown, hbel⟩ := hrel
     have HO := hide hown
     have hcr := below_cells hbel
     have hz := hbel.size
     have hlen := lowL_len X1 Y2 k
     have HS := hide (lowL_succ X1 Y2 k)
     by_cases hlt : k < N
     ·clear hown
      go_wp2_with (at_builtin; refine wpList_app pairE T_pairs rfl _ _ rfl wc.heap.size _ _ (lowL X1 Y2 k) rfl HO.out ((X1 + (k : Int), Y2 - 1), (X1 + (k : Int), Y2)) _ _ rfl _ rfl rfl (by omega) (by omega) (by omega) ?_; intro g c w' hown' hbel'; have HO' := hide hown'; clear hown')
      go_roundw
      case rel => exact ⟨k + 1, by omega, by go_num, by rw [HS.out]; have h9 := HO'.out; rw [hlen] at h9; exact h9, hbel.trans hbel'⟩
      case measure => simp [intOf]; omega
     ·obtain rfl : k = N := by omega
      clear hown
      go_wp2
      go_ret2
      exact ⟨_, rfl, hx.of_below hbel hx.size, by rw [HB.out]; exact HO.out.lower hx.size⟩
   ·have hrow' : boxY W s lo = boxY W s hi := by simpa using hrow
    have hbl : borderL W H s lo hi = sideL (boxX W s hi) (boxY W s lo) (boxH W H s lo).toNat := by unfold borderL; rw [if_pos hrow']
    clear hrow'
    obtain ⟨N, hN⟩ : ∃ N : Nat, boxH W H s lo = (N : Int) := ⟨(boxH W H s lo).toNat, by omega⟩
    rw [hN] at sl p3 hbl
    rw [Int.toNat_natCast] at hbl
    clear hN
    have HB := hide hbl
    clear hbl
    generalize boxX W s hi = X2 at *
    generalize boxY W s lo = Y1 at *
    go_wp2
    go_loopw [11, 53] (fun out i wr => ∃ k : Nat, k ≤ N ∧ i = .int .i64 k ∧ Own pairE wr wc.heap.size 225 out (sideL X2 Y1 k) ∧ Below wc.heap.size wc wr) (fun _ i _ => N - (intOf i).toNat)
    case atStart => exact ⟨0, by omega, rfl, Own.nil _ _ _ _, Below.refl _ _⟩
    case round =>
     obtain ⟨k, hk, rfl, hown, hbel⟩ := hrel
     have HO := hide hown
     have hcr := below_cells hbel
     have hz := hbel.size
     have hlen := sideL_len X2 Y1 k
     have HS := hide (sideL_succ X2 Y1 k)
     by_cases hlt : k < N
     ·clear hown
      go_wp2_with (at_builtin; refine wpList_app pairE T_pairs rfl _ _ rfl wc.heap.size _ _ (sideL X2 Y1 k) rfl HO.out ((X2 - 1, Y1 + (k : Int)), (X2, Y1 + (k : Int))) _ _ rfl _ rfl rfl (by omega) (by omega) (by omega) ?_; intro g c w' hown' hbel'; have HO' := hide hown'; clear hown')
      go_roundw
      case rel => exact ⟨k + 1, by omega, by go_num, by rw [HS.out]; have h9 := HO'.out; rw [hlen] at h9; exact h9, hbel.trans hbel'⟩
      case measure => simp [intOf]; omega
     ·obtain rfl : k = N := by omega
      clear hown
      go_wp2
      go_ret2
      exact ⟨_, rfl, hx.of_below hbel hx.size, by rw [HB.out]; exact HO.out.lower hx.size⟩
def wantL (W H s a b : Int) : List (Cell × Cell) := if hasI (besideL W H s (min a b)) (max a b) = true then borderL W H s (min a b) (max a b) else []
theorem borderL_pos {W H s lo hi : Int} (hr : rightB W H s = true) (h0 : 0 ≤ lo) (h1 : lo < cnt W H s) : 1 ≤ (borderL W H s lo hi).length := by
 have z := box_sz hr h0 h1
 unfold borderL
 split
 ·rw [sideL_len]; omega
 ·rw [lowL_len]; omega
end Go.Proofs.YtaellcgglldjaaaGreat

