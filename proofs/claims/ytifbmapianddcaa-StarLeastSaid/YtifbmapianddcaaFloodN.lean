/- The map's cells as a net. -/
import Derived.Test.YtifbmapianddcaaFloodB
import Derived.Test.YtifbmapianddcaaFarP
set_option linter.all false
set_option linter.unusedVariables false
set_option linter.unusedSimpArgs false
namespace Go.Proofs.Ytifbmapianddcaa

/-- A field that may be, and a box on its map. -/
structure LandP (W H : Int) (l : List Int) (bx byy bw bh : Int) : Prop where
  may : mayB W H = true
  len : (l.length : Int) = W * H
  u16 : U16s l
  fits : fitsR W H bx byy bw bh = true
theorem LandAt.plain {w : World} {W H : Int} {a : Option Addr} {l : List Int} {bx byy bw bh : Int} (L : LandAt w W H a l bx byy bw bh) : LandP W H l bx byy bw bh := ⟨L.may, L.len, L.u16, L.fits⟩

def vx (W : Int) (v : Nat) : Int := (v : Int) % W
def vy (W : Int) (v : Nat) : Int := (v : Int) / W
def idxN (W : Int) (p : Cell) : Nat := (p.2 * W + p.1).toNat

theorem idx_v {W : Int} (hW : 1 ≤ W) (v : Nat) : idxN W (vx W v, vy W v) = v := by
  unfold idxN vx vy
  have := Int.mul_ediv_add_emod (v : Int) W
  rw [Int.mul_comm] at this
  simp only
  omega
theorem idx_int {W x y : Int} (hx : 0 ≤ x) (hW : 1 ≤ W) (hy : 0 ≤ y) : ((idxN W (x, y) : Nat) : Int) = y * W + x := by
  unfold idxN
  have := Int.mul_nonneg hy (show 0 ≤ W by omega)
  simp only
  omega
theorem vx_idx {W x y : Int} (hx : 0 ≤ x) (hxW : x < W) (hy : 0 ≤ y) : vx W (idxN W (x, y)) = x := by
  unfold vx
  rw [idx_int hx (by omega) hy, Int.add_comm, Int.add_mul_emod_self_right]
  exact Int.emod_eq_of_lt hx hxW
theorem vy_idx {W x y : Int} (hx : 0 ≤ x) (hxW : x < W) (hy : 0 ≤ y) : vy W (idxN W (x, y)) = y := by
  unfold vy
  rw [idx_int hx (by omega) hy, Int.add_comm, Int.add_mul_ediv_right _ _ (by omega), Int.ediv_eq_zero_of_lt hx hxW]
  omega
theorem v_bd {W H : Int} (hW : 1 ≤ W) {v : Nat} (hv : (v : Int) < W * H) : 0 ≤ vx W v ∧ vx W v < W ∧ 0 ≤ vy W v ∧ vy W v < H := by
  unfold vx vy
  refine ⟨Int.emod_nonneg _ (by omega), Int.emod_lt_of_pos _ (by omega), Int.ediv_nonneg (by omega) (by omega), ?_⟩
  exact Int.ediv_lt_of_lt_mul (by omega) (by rw [Int.mul_comm]; exact hv)

theorem mem_nbC {op : Int → Int → Bool} {x y : Int} {p : Cell} : ∀ {n : Nat}, p ∈ nbC op x y n ↔ ∃ k, k < n ∧ op (x + dirX k) (y + dirY k) = true ∧ p = (x + dirX k, y + dirY k)
  | 0 => by simp [nbC]
  | n + 1 => by
    unfold nbC
    rw [List.mem_append, mem_nbC]
    constructor
    · rintro (⟨k, h1, h2⟩ | h)
      · exact ⟨k, by omega, h2⟩
      · split at h
        · next ho => exact ⟨n, by omega, ho, by simpa using h⟩
        · cases h
    · rintro ⟨k, h1, h2, h3⟩
      by_cases e : k = n
      · subst e; right; rw [if_pos h2, h3]; simp
      · left; exact ⟨k, by omega, h2, h3⟩

def opV (op : Int → Int → Bool) (W : Int) (N : Nat) (v : Nat) : Bool := decide (v < N) && op (vx W v) (vy W v)
def adjV (op : Int → Int → Bool) (W : Int) (v : Nat) : List Nat := (nbC op (vx W v) (vy W v) 4).map (idxN W)
def opp (k : Nat) : Nat := match k with | 0 => 2 | 1 => 3 | 2 => 0 | _ => 1
theorem opp_lt {k : Nat} : opp k < 4 := by unfold opp; split <;> omega
theorem opp_dir {k : Nat} (hk : k < 4) : dirX (opp k) = - dirX k ∧ dirY (opp k) = - dirY k := by
  obtain rfl | rfl | rfl | rfl : k = 0 ∨ k = 1 ∨ k = 2 ∨ k = 3 := by omega
  all_goals (constructor <;> rfl)

section
variable {W H : Int} {l : List Int} {bx byy bw bh : Int}

theorem LandP.wh (L : LandP W H l bx byy bw bh) : 1 ≤ W ∧ W ≤ 256 ∧ 1 ≤ H ∧ H ≤ 256 ∧ (l.length : Int) ≤ 65536 := by
  obtain ⟨a, b, c, d⟩ := mayB_true.1 L.may
  have := mul_bd (a := W) (b := H) (A := 256) (B := 256) (by omega) b (by omega) d
  exact ⟨a, b, c, d, by have := L.len; omega⟩
theorem LandP.in_ (L : LandP W H l bx byy bw bh) {x y : Int} (h : hasB bx byy bw bh x y = true) : 0 ≤ x ∧ x < W ∧ 0 ≤ y ∧ y < H := by
  have := fitsR_true.1 L.fits
  have := hasB_true.1 h
  omega
theorem open_has {x y : Int} (h : openB l W bx byy bw bh x y = true) : hasB bx byy bw bh x y = true ∧ 0 < costI l W (x, y) := by
  simpa [openB] using h
theorem LandP.idx_lt (L : LandP W H l bx byy bw bh) {x y : Int} (h : 0 ≤ x ∧ x < W ∧ 0 ≤ y ∧ y < H) : idxN W (x, y) < l.length := by
  have h1 := idx_bd h.1 h.2.1 h.2.2.1 h.2.2.2
  have h2 := idx_int (W := W) h.1 (by omega) h.2.2.1
  have := L.len
  omega
theorem LandP.v_in (L : LandP W H l bx byy bw bh) {v : Nat} (hv : v < l.length) : 0 ≤ vx W v ∧ vx W v < W ∧ 0 ≤ vy W v ∧ vy W v < H :=
  v_bd L.wh.1 (by have := L.len; omega)
theorem LandP.opV_idx (L : LandP W H l bx byy bw bh) {x y : Int} (h : 0 ≤ x ∧ x < W ∧ 0 ≤ y ∧ y < H) : opV (openB l W bx byy bw bh) W l.length (idxN W (x, y)) = openB l W bx byy bw bh x y := by
  unfold opV
  rw [vx_idx h.1 h.2.1 h.2.2.1, vy_idx h.1 h.2.1 h.2.2.1, decide_eq_true (L.idx_lt h)]
  simp
theorem cost_idx (x y : Int) : costI l W (x, y) = l.getD (idxN W (x, y)) 0 := rfl
theorem LandP.cost_v (L : LandP W H l bx byy bw bh) (v : Nat) : costI l W (vx W v, vy W v) = l.getD v 0 := by
  rw [cost_idx, idx_v L.wh.1]

/-- The map's net. -/
def mapNet (L : LandP W H l bx byy bw bh) : Net where
  n := l.length
  op := opV (openB l W bx byy bw bh) W l.length
  cost v := l.getD v 0
  adj := adjV (openB l W bx byy bw bh) W
  pos v hv := by
    unfold opV at hv
    simp only [Bool.and_eq_true] at hv
    have := (open_has hv.2).2
    rw [L.cost_v] at this
    omega
  top v _ := by
    rw [← L.cost_v]
    exact (costI_bd L.u16 W _).2
  lt v hv := by
    unfold opV at hv
    simp only [Bool.and_eq_true, decide_eq_true_eq] at hv
    exact hv.1
  sym u v hu hv ha := by
    obtain ⟨p, hp, rfl⟩ := List.mem_map.1 ha
    obtain ⟨k, hk, ho, rfl⟩ := mem_nbC.1 hp
    have hin := L.in_ (open_has ho).1
    unfold opV at hv
    simp only [Bool.and_eq_true, decide_eq_true_eq] at hv
    refine List.mem_map.2 ⟨(vx W v, vy W v), mem_nbC.2 ⟨opp k, opp_lt, ?_, ?_⟩, idx_v L.wh.1 v⟩
    · rw [vx_idx hin.1 hin.2.1 hin.2.2.1, vy_idx hin.1 hin.2.1 hin.2.2.1, (opp_dir hk).1, (opp_dir hk).2]
      rw [show vx W v + dirX k + -dirX k = vx W v by omega, show vy W v + dirY k + -dirY k = vy W v by omega]
      exact hv.2
    · rw [vx_idx hin.1 hin.2.1 hin.2.2.1, vy_idx hin.1 hin.2.1 hin.2.2.1, (opp_dir hk).1, (opp_dir hk).2]
      rw [show vx W v + dirX k + -dirX k = vx W v by omega, show vy W v + dirY k + -dirY k = vy W v by omega]

theorem adj_op (L : LandP W H l bx byy bw bh) {u v : Nat} (h : u ∈ (mapNet L).adj v) : (mapNet L).op u = true := by
  obtain ⟨p, hp, rfl⟩ := List.mem_map.1 h
  obtain ⟨k, hk, ho, rfl⟩ := mem_nbC.1 hp
  have hin := L.in_ (open_has ho).1
  show opV _ _ _ _ = true
  rw [L.opV_idx hin]
  exact ho
end
end Go.Proofs.Ytifbmapianddcaa
