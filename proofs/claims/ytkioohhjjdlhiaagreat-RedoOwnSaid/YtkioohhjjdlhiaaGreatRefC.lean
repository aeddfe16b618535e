/- The walk of the reference's Boxes: all clusters, row by row; Plain words for the cluster of a cell that is looked for; Plain laws: the boxes laid one by one are the clusters' boxes, and the cluster of a cell is the one that is found; Plain law: the clusters' boxes have as many cells together as the map -/
import Derived.Test.YtkioohhjjdlhiaaGreatGeom
import Derived.Test.YtkioohhjjdlhiaaGreatPartB
set_option linter.all false
set_option linter.unusedVariables false
set_option linter.unusedSimpArgs false
namespace Go.Proofs.YtkioohhjjdlhiaaGreat
open Go.RowKit

theorem T_boxes : ElemT Tryz.prog 52 117 (.agg #[.int .i64 0, .int .i64 0, .int .i64 0, .int .i64 0]) 4 32 := ⟨Tryz.underlying52, by kernel_rfl, rfl, by decide⟩

def rowBoxes (W H s y : Int) (n : Nat) : List (Cell × Cell) := (List.range n).map fun i : Nat => (((i : Int) * s, y), (min s (W - (i : Int) * s), min s (H - y)))
def boxesR (W H s : Int) (n : Nat) : List (Cell × Cell) := (List.range n).flatMap fun j : Nat => rowBoxes W H s ((j : Int) * s) (acr W s).toNat

theorem rowBoxes_succ (W H s y : Int) (n : Nat) : rowBoxes W H s y (n + 1) = rowBoxes W H s y n ++ [(((n : Int) * s, y), (min s (W - (n : Int) * s), min s (H - y)))] := by
 simp [rowBoxes, List.range_succ]
theorem boxesR_succ (W H s : Int) (n : Nat) : boxesR W H s (n + 1) = boxesR W H s n ++ rowBoxes W H s ((n : Int) * s) (acr W s).toNat := by
 simp [boxesR, List.range_succ]
theorem rowBoxes_len (W H s y : Int) (n : Nat) : (rowBoxes W H s y n).length = n := by simp [rowBoxes]
theorem boxesR_len (W H s : Int) (n : Nat) : (boxesR W H s n).length = n * (acr W s).toNat := by
 induction n with
 | zero => simp [boxesR]
 | succ n ih => rw [boxesR_succ, List.length_append, ih, rowBoxes_len, Nat.add_mul]; omega

theorem acr_lt {n s : Int} (hs : 1 ≤ s) (i : Nat) : (i : Int) * s < n ↔ i < (acr n s).toNat := by
 unfold acr
 constructor
 ·intro h
  have h2 : (i : Int) + 1 ≤ (n + s - 1) / s := by
   rw [Int.le_ediv_iff_mul_le (by omega), Int.add_mul]
   omega
  omega
 ·intro h
  have h2 : (i : Int) + 1 ≤ (n + s - 1) / s := by omega
  rw [Int.le_ediv_iff_mul_le (by omega), Int.add_mul] at h2
  omega

def RetBoxes (w : World) (L : List (Cell × Cell)) (e : Ending) (w' : World) : Prop := ∃ v, e = .returned v ∧ Ext w w' ∧ Own pairE w' w.heap.size 117 v L

set_option maxHeartbeats 1000000 in
theorem rBoxes_any (W H s : Int) (w : World) (hr : rightB W H s = true) :
  Calls Tryz.prog 65 #[.agg #[.int .i64 W, .int .i64 H], .int .i64 s] w (RetBoxes w (boxesR W H s (acr H s).toNat)) := by
 obtain ⟨h1, h2, h3, h4, h5, h6⟩ := rightB_true.1 hr
 have b1 := acr_bd W s h5 h6 h1 h2
 have b2 := acr_bd H s h5 h6 h3 h4
 obtain ⟨aH, hH⟩ : ∃ n : Nat, n = (acr H s).toNat := ⟨_, rfl⟩
 obtain ⟨aW, hW⟩ : ∃ n : Nat, n = (acr W s).toNat := ⟨_, rfl⟩
 rw [← hH]
 have HH := hide hH
 have HW := hide hW
 have hH' : aH ≤ 256 := by omega
 have hW' : aW ≤ 256 := by omega
 clear hH hW b1 b2 hr
 go_enter Tryz.func65, Tryz.ntmps65
 go_wp2
 obtain ⟨w0, hw0⟩ : ∃ w0, w0 = (w.alloc (.cells #[.int .i64 W, .int .i64 H] 23)).alloc (.cells #[] 117) := ⟨_, rfl⟩
 have hx0 : Ext w w0 := by rw [hw0]; exact (by (with_reducible (repeat' (first | exact z_r _ | assumption | refine z_d ?_ | refine z_n ?_ _ | refine z_a ?_ _ | refine z_s ?_ ?_ _ | refine z_t ?_ (by assumption)))); all_goals (simp <;> omega))
 have c0 : w0.cell? ⟨w.heap.size, 0, none⟩ = some (.int .i64 W) := by rw [hw0]; simp [go_sem]
 have c1 : w0.cell? ⟨w.heap.size, 1, none⟩ = some (.int .i64 H) := by rw [hw0]; simp [go_sem]
 have z0 : w.heap.size < w0.heap.size := by rw [hw0]; simp; omega
 have o0 : Own pairE w0 (w.heap.size + 1) 117 (.slice (some ⟨w.heap.size + 1, 0, none⟩) 0 0) [] := by rw [hw0]; exact Own.lit0 _ _ _ _ _ (by simp) (Nat.le_refl _)
 rw [← hw0]
 have O0 := hide o0
 clear hw0 o0
 go_loopw [5, 6] (fun out y wr => ∃ j : Nat, j ≤ aH ∧ y = .int .i64 ((j : Int) * s) ∧ Own pairE wr (w.heap.size + 1) 117 out (boxesR W H s j) ∧ Below (w.heap.size + 1) w0 wr) (fun _ y _ => (H - intOf y).toNat)
 case atStart => exact ⟨0, Nat.zero_le _, by simp, O0.out, Below.refl _ _⟩
 case round =>
  obtain ⟨j, hj, rfl, hown, hbel⟩ := hrel
  have d0 := (hbel.cell (p := ⟨w.heap.size, 0, none⟩) (by simp)).trans c0
  have d1 := (hbel.cell (p := ⟨w.heap.size, 1, none⟩) (by simp)).trans c1
  have hz := hbel.size
  have hjs := acr_lt (n := H) (s := s) (by omega) j
  rw [← HH.out] at hjs
  have jb := mul_bd (a := (j : Int)) (b := s) (A := 256) (B := 16) (by omega) (by omega) (by omega) (by omega)
  have HO := hide hown
  clear hown
  by_cases hlt : j < aH
  ·have hyl : (j : Int) * s < H := hjs.2 hlt
   have hjn : ((j + 1 : Nat) : Int) * s = (j : Int) * s + s := by rw [Int.natCast_add, Int.add_mul]; simp
   have HJ := hide hjn
   clear hjs hjn
   obtain ⟨y, hy⟩ : ∃ y : Int, y = (j : Int) * s := ⟨_, rfl⟩
   rw [← hy] at jb hyl ⊢
   have HY := hide hy
   clear hy
   have l1 := boxesR_len W H s j
   rw [← HW.out] at l1
   have l1' : (boxesR W H s j).length ≤ 65536 := by rw [l1]; exact Nat.mul_le_mul (show j ≤ 256 by omega) hW'
   clear l1
   obtain ⟨wo, rfl⟩ : ∃ wo : World, wo = wr := ⟨_, rfl⟩
   go_wp2
   go_loopw [5, 7] (fun out x wi => ∃ i : Nat, i ≤ aW ∧ x = .int .i64 ((i : Int) * s) ∧ Own pairE wi (w.heap.size + 1) 117 out (boxesR W H s j ++ rowBoxes W H s y i) ∧ Below (w.heap.size + 1) wo wi) (fun _ x _ => (W - intOf x).toNat)
   case atStart => exact ⟨0, Nat.zero_le _, by simp, by simpa [rowBoxes] using HO.out, Below.refl _ _⟩
   case round =>
    obtain ⟨i, hi, rfl, hown', hbel'⟩ := hrel
    have e0 := (hbel'.cell (p := ⟨w.heap.size, 0, none⟩) (by simp)).trans d0
    have e1 := (hbel'.cell (p := ⟨w.heap.size, 1, none⟩) (by simp)).trans d1
    have hz' := hbel'.size
    have his := acr_lt (n := W) (s := s) (by omega) i
    rw [← HW.out] at his
    have ib := mul_bd (a := (i : Int)) (b := s) (A := 256) (B := 16) (by omega) (by omega) (by omega) (by omega)
    have HO' := hide hown'
    clear hown'
    have l2 := rowBoxes_len W H s y i
    have l3 : (boxesR W H s j ++ rowBoxes W H s y i).length ≤ 70000 := by rw [List.length_append, l2]; omega
    clear l2
    by_cases hlt' : i < aW
    ·have hxl : (i : Int) * s < W := his.2 hlt'
     have hin : ((i + 1 : Nat) : Int) * s = (i : Int) * s + s := by rw [Int.natCast_add, Int.add_mul]; simp
     have HI := hide hin
     clear his hin
     have HS := hide (rowBoxes_succ W H s y i)
     obtain ⟨x, hx⟩ : ∃ x : Int, x = (i : Int) * s := ⟨_, rfl⟩
     rw [← hx] at ib hxl ⊢
     have HX := hide hx
     clear hx
     have zr : w.heap.size < wr.heap.size := by omega
     go_wp2_with (at_builtin; refine wpList_app pairE T_boxes rfl _ _ rfl (w.heap.size + 1) _ _ (boxesR W H s j ++ rowBoxes W H s y i) rfl (HO'.out.alloc _) ((x, y), (min s (W - x), min s (H - y))) _ _ (by simp [pairE]; omega) _ (by simp) rfl (by omega) (by omega) (by simp; omega) ?_; intro g c w9 hown9 hb9; have HO9 := hide hown9; clear hown9)
     all_goals
      go_roundw
      case rel => exact ⟨i + 1, by omega, by rw [HI.out, ← HX.out], by have h9 := HO9.out; rw [List.length_append] at h9; rw [HS.out, ← HX.out, ← List.append_assoc]; exact h9, hbel'.trans (((Below.refl _ _).alloc (by omega) _).trans hb9)⟩
      case measure => simp [intOf]; omega
    ·obtain rfl : i = aW := by omega
     have hxg : ¬ (i : Int) * s < W := fun h => hlt' (his.1 h)
     clear his
     obtain ⟨x, hx⟩ : ∃ x : Int, x = (i : Int) * s := ⟨_, rfl⟩
     rw [← hx] at ib hxg ⊢
     clear hx
     go_wp2
     go_roundw
     case rel => exact ⟨j + 1, by omega, by rw [HJ.out, ← HY.out], by rw [boxesR_succ, ← HW.out, ← HY.out]; exact HO'.out, hbel.trans hbel'⟩
     case measure => simp [intOf]; omega
  ·obtain rfl : j = aH := by omega
   have hyg : ¬ (j : Int) * s < H := fun h => hlt (hjs.1 h)
   clear hjs
   obtain ⟨y, hy⟩ : ∃ y : Int, y = (j : Int) * s := ⟨_, rfl⟩
   rw [← hy] at jb hyg ⊢
   clear hy
   go_wp2
   go_ret
   exact ⟨_, rfl, hx0.of_below hbel (by omega), HO.out.lower (by omega)⟩

def gidx {α : Type} (p : α → Bool) (l : List α) : Int := match l.findIdx? p with
 | some i => i
 | none => -1
theorem gidx_at {α : Type} {p : α → Bool} {l : List α} {k : Nat} (hk : k < l.length) (h : ∀ j (hj : j < k), p (l[j]'(by omega)) = false) (hp : p l[k] = true) : gidx p l = k := by
 have : l.findIdx? p = some k := by
  rw [List.findIdx?_eq_some_iff_getElem]
  exact ⟨hk, hp, fun j hj => by simpa using h j hj⟩
 simp [gidx, this]
theorem gidx_none {α : Type} {p : α → Bool} {l : List α} (h : ∀ j (hj : j < l.length), p l[j] = false) : gidx p l = -1 := by
 have : l.findIdx? p = none := by
  rw [List.findIdx?_eq_none_iff]
  intro x hx
  obtain ⟨j, hj, rfl⟩ := List.getElem_of_mem hx
  exact h j hj
 simp [gidx, this]

theorem Own.pos {α : Type} {E : Enc α} {w : World} {base : Nat} {e : TypeId} {v : Value} {l : List α} (h : Own E w base e v l) (hl : 0 < l.length) : ∃ g c, v = .slice (some ⟨g, 0, none⟩) l.length c ∧ base ≤ g ∧ g < w.heap.size := by
 rcases h.2 with ⟨_, hn⟩ | ⟨g, cap, cur, hv, hb, hg, _⟩
 ·omega
 ·exact ⟨g, cap, hv, hb, lt_of_block hg⟩
theorem Reads.pair_at {w : World} {g n c : Nat} {l : List (Cell × Cell)} (h : Reads pairE w (.slice (some ⟨g, 0, none⟩) n c) l) {k : Nat} {p : Cell × Cell} (hk : l[k]? = some p) :
  w.cell? ⟨g, k * 4, none⟩ = some (.int .i64 p.1.1) ∧ w.cell? ⟨g, k * 4 + 1, none⟩ = some (.int .i64 p.1.2) ∧ w.cell? ⟨g, k * 4 + 2, none⟩ = some (.int .i64 p.2.1) ∧ w.cell? ⟨g, k * 4 + 3, none⟩ = some (.int .i64 p.2.2) := by
 have hlt := (List.getElem?_eq_some_iff.1 hk).1
 have := h.pairs.2 k hlt
 rw [List.getElem?_eq_getElem hlt] at hk
 have hk' := Option.some.inj hk
 rw [hk'] at this
 simpa using this

def hasP (x y : Int) (b : Cell × Cell) : Bool := hasB b.1.1 b.1.2 b.2.1 b.2.2 x y
def fOf (l : List (Cell × Cell)) (x y : Int) : Int := gidx (hasP x y) l

def NonNeg (l : List (Cell × Cell)) : Prop := ∀ k (h : k < l.length), 0 ≤ l[k].1.1 ∧ 0 ≤ l[k].1.2

theorem PairsAt.below {w w' : World} {b off : Nat} {l : List (Cell × Cell)} (h : PairsAt w b off l) {B : Nat} (hb : b < B) (he : Below B w w') : PairsAt w' b off l :=
 fun k hk => ⟨(he.cell (p := ⟨b, _, none⟩) hb).trans (h k hk).1, (he.cell (p := ⟨b, _, none⟩) hb).trans (h k hk).2.1, (he.cell (p := ⟨b, _, none⟩) hb).trans (h k hk).2.2.1, (he.cell (p := ⟨b, _, none⟩) hb).trans (h k hk).2.2.2⟩

def boxP (W H s id : Int) : Cell × Cell := ((boxX W s id, boxY W s id), (boxW W s id, boxH W H s id))

theorem boxesR_at {W H s : Int} (ha : 1 ≤ acr W s) (n k : Nat) (h : k < n * (acr W s).toNat) : (boxesR W H s n)[k]? = some (boxP W H s k) := by
 induction n with
 | zero => simp at h
 | succ n ih =>
  obtain ⟨a, hA⟩ : ∃ a : Nat, acr W s = (a : Int) := ⟨(acr W s).toNat, by omega⟩
  rw [boxesR_succ]
  rw [hA, Int.toNat_natCast] at h ih ⊢
  by_cases hk : k < n * a
  ·rw [List.getElem?_append_left (by rw [boxesR_len, hA, Int.toNat_natCast]; exact hk)]
   exact ih hk
  ·have hlen : (boxesR W H s n).length = n * a := by rw [boxesR_len, hA, Int.toNat_natCast]
   rw [List.getElem?_append_right (by omega), hlen]
   have hka : k - n * a < a := by rw [Nat.add_mul] at h; omega
   have hdiv : k / a = n := by
    rw [Nat.div_eq_iff (by omega)]
    constructor
    ·rw [Nat.mul_comm] at hk; rw [Nat.mul_comm]; omega
    ·rw [Nat.add_mul] at h; omega
   have hmod : k % a = k - n * a := by
    have := Nat.mod_add_div k a
    rw [hdiv, Nat.mul_comm a n] at this
    omega
   have hX : boxX W s k = ((k - n * a : Nat) : Int) * s := by
    unfold boxX; rw [hA, show ((k : Int) % (a : Int)) = ((k % a : Nat) : Int) from rfl, hmod]
   have hY : boxY W s k = (n : Int) * s := by
    unfold boxY; rw [hA, show ((k : Int) / (a : Int)) = ((k / a : Nat) : Int) from rfl, hdiv]
   simp only [rowBoxes, List.getElem?_map, List.getElem?_range hka, Option.map_some, boxP, boxW, boxH, hX, hY]

def boxesAll (W H s : Int) : List (Cell × Cell) := boxesR W H s (acr H s).toNat

theorem boxesAll_len {W H s : Int} (hr : rightB W H s = true) : ((boxesAll W H s).length : Int) = cnt W H s := by
 obtain ⟨h1, h2, h3, h4, h5, h6⟩ := rightB_true.1 hr
 have b1 := acr_bd W s h5 h6 h1 h2
 have b2 := acr_bd H s h5 h6 h3 h4
 unfold boxesAll cnt
 rw [boxesR_len, Int.natCast_mul, Int.mul_comm, Int.toNat_of_nonneg (by omega), Int.toNat_of_nonneg (by omega)]

theorem boxesAll_at {W H s : Int} (hr : rightB W H s = true) (k : Nat) (h : (k : Int) < cnt W H s) : (boxesAll W H s)[k]? = some (boxP W H s k) := by
 obtain ⟨h1, h2, h3, h4, h5, h6⟩ := rightB_true.1 hr
 have b1 := acr_bd W s h5 h6 h1 h2
 have hl := boxesAll_len hr
 unfold boxesAll at hl ⊢
 rw [boxesR_len] at hl
 exact boxesR_at b1.1 _ k (by omega)

theorem boxesAll_get {W H s : Int} (hr : rightB W H s = true) (k : Nat) (h : k < (boxesAll W H s).length) : (boxesAll W H s)[k] = boxP W H s k := by
 have h' := boxesAll_at hr k (by rw [← boxesAll_len hr]; omega)
 rw [List.getElem?_eq_getElem h] at h'
 exact Option.some.inj h'

theorem boxesAll_nonneg {W H s : Int} (hr : rightB W H s = true) : NonNeg (boxesAll W H s) := by
 intro k h
 have h' : (k : Int) < cnt W H s := by rw [← boxesAll_len hr]; omega
 rw [boxesAll_get hr k h]
 have := box_bd hr (by omega) h'
 exact ⟨this.1, this.2.2.1⟩

theorem div_uniq {x s u : Int} (hs : 0 < s) (h1 : u * s ≤ x) (h2 : x < u * s + s) : x / s = u := by
 have a1 : u ≤ x / s := (Int.le_ediv_iff_mul_le hs).2 h1
 have a2 : x / s < u + 1 := Int.ediv_lt_of_lt_mul hs (by rw [Int.add_mul]; omega)
 omega
theorem x_lt_acr {W s x : Int} (hs : 1 ≤ s) (h0 : 0 ≤ x) (hx : x < W) : x / s < acr W s := by
 unfold acr
 have h1 : x / s ≤ (W - 1) / s := Int.ediv_le_ediv (by omega) (by omega)
 have h2 : (W + s - 1) / s = (W - 1) / s + 1 := by
  rw [show W + s - 1 = (W - 1) + s * 1 from by omega, Int.add_mul_ediv_left _ _ (by omega)]
 omega

/-- Which cluster has a cell of the map: just the one. -/
theorem hasP_box {W H s x y : Int} (hr : rightB W H s = true) (hi : inB W H x y = true) {id : Int} (h0 : 0 ≤ id) (hid : id < cnt W H s) : hasP x y (boxP W H s id) = true ↔ id = ofN W s x y := by
 obtain ⟨h1, h2, h3, h4, h5, h6⟩ := rightB_true.1 hr
 obtain ⟨_, _, _, _, i1, i2, i3, i4⟩ := inB_true.1 hi
 have b1 := acr_bd W s h5 h6 h1 h2
 unfold hasP boxP
 rw [hasB_true]
 unfold boxW boxH boxX boxY ofN
 have e1 := Int.emod_add_mul_ediv id (acr W s)
 have m0 : 0 ≤ id % acr W s := Int.emod_nonneg _ (by omega)
 have m1 := Int.emod_lt_of_pos id (show 0 < acr W s by omega)
 have q1 := Int.emod_add_mul_ediv x s
 have q2 := Int.emod_lt_of_pos x (show 0 < s by omega)
 have q3 : 0 ≤ x % s := Int.emod_nonneg _ (by omega)
 have p1 := Int.emod_add_mul_ediv y s
 have p2 := Int.emod_lt_of_pos y (show 0 < s by omega)
 have p3 : 0 ≤ y % s := Int.emod_nonneg _ (by omega)
 simp only
 constructor
 ·rintro ⟨g1, g2, g3, g4⟩
  have ex : x / s = id % acr W s := div_uniq (by omega) g1 (by omega)
  have ey : y / s = id / acr W s := div_uniq (by omega) g3 (by omega)
  rw [ex, ey, Int.mul_comm]
  omega
 ·intro he
  have a1 := x_lt_acr (W := W) (s := s) (by omega) i1 i2
  have a2 := Int.ediv_nonneg i1 (show 0 ≤ s by omega)
  have hm : id % acr W s = x / s := by
   rw [he, Int.add_comm, Int.add_mul_emod_self_right]
   exact Int.emod_eq_of_lt a2 a1
  have hd : id / acr W s = y / s := by
   rw [he, Int.add_comm, Int.add_mul_ediv_right _ _ (by omega), Int.ediv_eq_zero_of_lt a2 a1]
   omega
  rw [hm, hd]
  rw [Int.mul_comm s] at q1 p1
  omega

theorem hasP_off {W H s x y : Int} (hr : rightB W H s = true) (hi : inB W H x y = false) {id : Int} (h0 : 0 ≤ id) (hid : id < cnt W H s) : hasP x y (boxP W H s id) = false := by
 obtain ⟨h1, h2, h3, h4, h5, h6⟩ := rightB_true.1 hr
 cases hh : hasP x y (boxP W H s id)
 ·rfl
 ·have bb := box_bd hr h0 hid
  unfold hasP boxP at hh
  rw [hasB_true] at hh
  unfold boxW boxH at hh
  simp only at hh
  have : inB W H x y = true := inB_true.2 ⟨by omega, by omega, by omega, by omega, by omega, by omega, by omega, by omega⟩
  rw [this] at hi
  cases hi

theorem ofN_bd {W H s x y : Int} (hr : rightB W H s = true) (hi : inB W H x y = true) : 0 ≤ ofN W s x y ∧ ofN W s x y < cnt W H s := by
 obtain ⟨h1, h2, h3, h4, h5, h6⟩ := rightB_true.1 hr
 obtain ⟨_, _, _, _, i1, i2, i3, i4⟩ := inB_true.1 hi
 have b1 := acr_bd W s h5 h6 h1 h2
 have a1 := x_lt_acr (W := W) (s := s) (by omega) i1 i2
 have a2 := Int.ediv_nonneg i1 (show 0 ≤ s by omega)
 have c1 := x_lt_acr (W := H) (s := s) (by omega) i3 i4
 have c2 := Int.ediv_nonneg i3 (show 0 ≤ s by omega)
 unfold ofN cnt
 have m1 := Int.mul_nonneg c2 (show 0 ≤ acr W s by omega)
 have m2 : y / s * acr W s ≤ (acr H s - 1) * acr W s := Int.mul_le_mul_of_nonneg_right (by omega) (by omega)
 rw [Int.sub_mul, Int.mul_comm (acr H s)] at m2
 omega

theorem fOf_in {W H s x y : Int} (hr : rightB W H s = true) (hi : inB W H x y = true) : fOf (boxesAll W H s) x y = ofN W s x y := by
 have hb := ofN_bd hr hi
 obtain ⟨k, hk⟩ : ∃ k : Nat, ofN W s x y = k := ⟨(ofN W s x y).toNat, by omega⟩
 have hl := boxesAll_len hr
 have hlt : k < (boxesAll W H s).length := by omega
 rw [hk]
 refine gidx_at hlt (fun j hj => ?_) ?_
 ·rw [boxesAll_get hr j (by omega)]
  cases hh : hasP x y (boxP W H s j)
  ·rfl
  ·have := (hasP_box hr hi (by omega) (by omega)).1 hh
   omega
 ·rw [boxesAll_get hr k hlt]
  exact (hasP_box hr hi (by omega) (by omega)).2 hk.symm

theorem fOf_out {W H s x y : Int} (hr : rightB W H s = true) (hi : inB W H x y = false) : fOf (boxesAll W H s) x y = -1 := by
 have hl := boxesAll_len hr
 refine gidx_none (fun j hj => ?_)
 rw [boxesAll_get hr j hj]
 exact hasP_off hr hi (by omega) (by omega)

def sumN (f : Nat → Int) : Nat → Int
 | 0 => 0
 | n + 1 => sumN f n + f n

theorem sumN_congr {f g : Nat → Int} (n : Nat) (h : ∀ i, i < n → f i = g i) : sumN f n = sumN g n := by
 induction n with
 | zero => rfl
 | succ n ih => rw [sumN, sumN, ih (fun i hi => h i (by omega)), h n (by omega)]

theorem sumN_split (h : Nat → Int) (m n : Nat) : sumN h (m + n) = sumN h m + sumN (fun i => h (m + i)) n := by
 induction n with
 | zero => simp [sumN]
 | succ n ih => rw [← Nat.add_assoc, sumN, ih, sumN]; omega

theorem sumN_mul (f : Nat → Int) (c : Int) (n : Nat) : sumN (fun i => c * f i) n = c * sumN f n := by
 induction n with
 | zero => simp [sumN]
 | succ n ih => rw [sumN, ih, sumN, Int.mul_add]

theorem sumN_rows (f g : Nat → Int) (a n : Nat) (ha : 0 < a) : sumN (fun k => f (k / a) * g (k % a)) (n * a) = sumN f n * sumN g a := by
 induction n with
 | zero => simp [sumN]
 | succ n ih =>
  rw [Nat.add_mul, Nat.one_mul, sumN_split, ih, sumN, Int.add_mul]
  congr 1
  rw [← sumN_mul]
  apply sumN_congr
  intro i hi
  rw [Nat.mul_comm n a, Nat.mul_add_div ha, Nat.div_eq_of_lt hi, Nat.mul_add_mod, Nat.mod_eq_of_lt hi, Nat.add_zero]

/-- Cut into pieces of s, a length is its pieces together. -/
theorem sum_cut {L s : Int} (hs : 1 ≤ s) (hL : 1 ≤ L) (n : Nat) (hn : n ≤ (acr L s).toNat) : sumN (fun i => min s (L - (i : Int) * s)) n = min ((n : Int) * s) L := by
 induction n with
 | zero => simp [sumN]; omega
 | succ n ih =>
  rw [sumN, ih (by omega)]
  have h := (acr_lt (n := L) hs n).2 (by omega)
  have e : ((n + 1 : Nat) : Int) * s = (n : Int) * s + s := by rw [Int.natCast_add, Int.add_mul]; simp
  rw [e]
  omega

theorem sum_all {L s : Int} (hs : 1 ≤ s) (hL : 1 ≤ L) : sumN (fun i => min s (L - (i : Int) * s)) (acr L s).toNat = L := by
 rw [sum_cut hs hL _ (Nat.le_refl _)]
 have h : ¬ (((acr L s).toNat : Int) * s < L) := fun h => Nat.lt_irrefl _ ((acr_lt (n := L) hs _).1 h)
 omega

def area (W H s : Int) (n : Nat) : Int := sumN (fun k => boxW W s (k : Int) * boxH W H s (k : Int)) n

theorem area_all {W H s : Int} (hr : rightB W H s = true) {N : Nat} (hN : cnt W H s = (N : Int)) : area W H s N = W * H := by
 obtain ⟨h1, h2, h3, h4, h5, h6⟩ := rightB_true.1 hr
 have b1 := acr_bd W s h5 h6 h1 h2
 have b2 := acr_bd H s h5 h6 h3 h4
 have s1 := sum_all (L := W) (s := s) (by omega) h1
 have s2 := sum_all (L := H) (s := s) (by omega) h3
 obtain ⟨a, hA⟩ : ∃ a : Nat, acr W s = (a : Int) := ⟨(acr W s).toNat, by omega⟩
 obtain ⟨b, hB⟩ : ∃ b : Nat, acr H s = (b : Int) := ⟨(acr H s).toNat, by omega⟩
 have hab : N = b * a := by
  unfold cnt at hN
  rw [hA, hB, ← Int.natCast_mul] at hN
  rw [Nat.mul_comm]; omega
 rw [hA, Int.toNat_natCast] at s1
 rw [hB, Int.toNat_natCast] at s2
 have e := sumN_rows (fun j => min s (H - (j : Int) * s)) (fun i => min s (W - (i : Int) * s)) a b (by omega)
 rw [s1, s2] at e
 rw [hab, Int.mul_comm W, ← e]
 unfold area
 apply sumN_congr
 intro k _
 unfold boxW boxH boxX boxY
 rw [hA, Int.mul_comm]
 rfl

theorem area_bd {W H s : Int} (hr : rightB W H s = true) (n : Nat) (hn : (n : Int) ≤ cnt W H s) : 0 ≤ area W H s n ∧ area W H s n ≤ 256 * (n : Int) := by
 induction n with
 | zero => simp [area, sumN]
 | succ n ih =>
  have h := ih (by omega)
  have b := box_sz hr (id := (n : Int)) (by omega) (by omega)
  have m := mul_bd (a := boxW W s (n : Int)) (b := boxH W H s (n : Int)) (A := 16) (B := 16) (by omega) (by omega) (by omega) (by omega)
  unfold area at h ⊢
  rw [sumN]
  omega
theorem area_succ (W H s : Int) (n : Nat) : area W H s (n + 1) = area W H s n + boxW W s (n : Int) * boxH W H s (n : Int) := rfl

theorem acr_le {L s : Int} (hs : 2 ≤ s) (hL : 1 ≤ L) : acr L s ≤ L := by
 unfold acr
 apply Int.ediv_le_of_le_mul (by omega)
 have := Int.mul_nonneg (show (0 : Int) ≤ L - 1 by omega) (show (0 : Int) ≤ s - 1 by omega)
 rw [Int.sub_mul, Int.mul_sub] at this
 omega
theorem cnt_small {W H s : Int} (hs : smallB W H s = true) : cnt W H s ≤ 400 := by
 obtain ⟨hr, hm⟩ := smallB_true.1 hs
 obtain ⟨h1, h2, h3, h4, h5, h6⟩ := rightB_true.1 hr
 have b1 := acr_bd W s h5 h6 h1 h2
 have b2 := acr_bd H s h5 h6 h3 h4
 have a1 := acr_le (L := W) h5 h1
 have a2 := acr_le (L := H) h5 h3
 unfold cnt
 have := Int.mul_le_mul a1 a2 (by omega) (by omega)
 omega
theorem fits_box {W H s id : Int} (hr : rightB W H s = true) (h0 : 0 ≤ id) (hid : id < cnt W H s) : fitsR W H (boxX W s id) (boxY W s id) (boxW W s id) (boxH W H s id) = true := by
 have b := box_bd hr h0 hid
 have z := box_sz hr h0 hid
 unfold fitsR
 unfold boxW boxH at *
 simp only [Bool.and_eq_true, decide_eq_true_eq]
 omega
end Go.Proofs.YtkioohhjjdlhiaaGreat
