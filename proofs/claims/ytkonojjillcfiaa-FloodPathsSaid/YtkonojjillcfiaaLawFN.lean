/- The law FloodNear. -/
import Derived.Test.YtkonojjillcfiaaLawF0
namespace Go.Proofs.Ytkonojjillcfiaa
open Go.RowKit

/-- How far the cell beside one is, as the law asks. -/
def nearF (far : Nat → Int) (W bx byy bw bh x y : Int) (k : Nat) : Int := if hasB bx byy bw bh (stepX x (k : Int)) (stepY y (k : Int)) = true then far (idxN W (stepX x (k : Int), stepY y (k : Int))) else infI
/-- The least of the first k. -/
def leastF (far : Nat → Int) (W bx byy bw bh x y c : Int) : Nat → Int
  | 0 => infI
  | k + 1 => if satS (nearF far W bx byy bw bh x y k) c < leastF far W bx byy bw bh x y c k then satS (nearF far W bx byy bw bh x y k) c else leastF far W bx byy bw bh x y c k

theorem step_dir {k : Nat} (hk : k < 4) (x y : Int) : stepX x (k : Int) = x + dirX k ∧ stepY y (k : Int) = y + dirY k := by
  obtain rfl | rfl | rfl | rfl : k = 0 ∨ k = 1 ∨ k = 2 ∨ k = 3 := by omega
  all_goals (constructor <;> simp [stepX, stepY, dirX, dirY] <;> omega)

theorem least_ge {far : Nat → Int} {W bx byy bw bh x y c m : Int} : ∀ {n : Nat}, (∀ k, k < n → m ≤ satS (nearF far W bx byy bw bh x y k) c) → m ≤ infI → m ≤ leastF far W bx byy bw bh x y c n
  | 0, _, h => h
  | n + 1, h, hi => by
    have h1 := least_ge (n := n) (fun k hk => h k (by omega)) hi
    have h2 := h n (by omega)
    unfold leastF
    split <;> omega
theorem least_le {far : Nat → Int} {W bx byy bw bh x y c : Int} : ∀ {n : Nat} {k : Nat}, k < n → leastF far W bx byy bw bh x y c n ≤ satS (nearF far W bx byy bw bh x y k) c
  | n + 1, k, hk => by
    unfold leastF
    by_cases e : k = n
    · subst e
      split <;> omega
    · have := least_le (far := far) (W := W) (bx := bx) (byy := byy) (bw := bw) (bh := bh) (x := x) (y := y) (c := c) (n := n) (k := k) (by omega)
      split <;> omega
theorem least_inf {far : Nat → Int} {W bx byy bw bh x y c : Int} : ∀ (n : Nat), leastF far W bx byy bw bh x y c n ≤ infI
  | 0 => Int.le_refl _
  | n + 1 => by
    have := least_inf (far := far) (W := W) (bx := bx) (byy := byy) (bw := bw) (bh := bh) (x := x) (y := y) (c := c) n
    unfold leastF
    split <;> omega

theorem near_nn {far : Nat → Int} (h : ∀ v, 0 ≤ far v ∧ far v ≤ infI) (W bx byy bw bh x y : Int) (k : Nat) : 0 ≤ nearF far W bx byy bw bh x y k ∧ nearF far W bx byy bw bh x y k ≤ infI := by
  unfold nearF
  split
  · exact h _
  · exact ⟨by decide, Int.le_refl _⟩
theorem satS_bd {a b : Int} (h1 : 0 ≤ a) (h2 : 0 ≤ b) : 0 ≤ satS a b ∧ satS a b ≤ 18446744073709551615 := by unfold satS; split <;> omega

theorem least_far {W H : Int} {l : List Int} {bx byy bw bh : Int} (L : LandP W H l bx byy bw bh) {s : Nat} {far : Nat → Int} (F : IsFar (mapNet L) s far) (lo : FarLow (mapNet L) far) {x y : Int} (ho : openB l W bx byy bw bh x y = true) (hs : idxN W (x, y) ≠ s) :
    leastF far W bx byy bw bh x y (costI l W (x, y)) 4 = far (idxN W (x, y)) := by
  have hin := L.in_ (open_has ho).1
  have hop : (mapNet L).op (idxN W (x, y)) = true := by show opV _ _ _ _ = true; rw [L.opV_idx hin]; exact ho
  have hadj : (mapNet L).adj (idxN W (x, y)) = (nbC (openB l W bx byy bw bh) x y 4).map (idxN W) := by
    show adjV _ _ _ = _
    unfold adjV
    rw [vx_idx hin.1 hin.2.1 hin.2.2.1, vy_idx hin.1 hin.2.1 hin.2.2.1]
  have hc : (mapNet L).cost (idxN W (x, y)) = costI l W (x, y) := rfl
  have c1 := (mapNet L).pos _ hop
  have c2 := (mapNet L).top _ hop
  rw [hc] at c1 c2
  have e1 : infI = 18446744073709551615 := rfl
  have hn : ((mapNet L).n : Int) ≤ 65536 := L.wh.2.2.2.2
  refine Int.le_antisymm ?_ (least_ge (fun k hk => ?_) (F.le _))
  · by_cases hf : far (idxN W (x, y)) < infI
    · obtain ⟨u, hu, _, he⟩ := F.from_ _ hop hs hf
      rw [hadj] at hu
      obtain ⟨p, hp, rfl⟩ := List.mem_map.1 hu
      obtain ⟨k, hk, hko, rfl⟩ := mem_nbC.1 hp
      have hsd := step_dir hk x y
      have h1 := least_le (far := far) (W := W) (bx := bx) (byy := byy) (bw := bw) (bh := bh) (x := x) (y := y) (c := costI l W (x, y)) hk
      have h2 : nearF far W bx byy bw bh x y k = far (idxN W (x + dirX k, y + dirY k)) := by
        unfold nearF
        rw [hsd.1, hsd.2, if_pos (open_has hko).1]
      rw [h2] at h1
      have h3 : satS (far (idxN W (x + dirX k, y + dirY k))) (costI l W (x, y)) = far (idxN W (x, y)) := by
        unfold satS
        rw [← hc, he, if_pos (by have := F.le (idxN W (x, y)); omega)]
      omega
    · have := least_inf (far := far) (W := W) (bx := bx) (byy := byy) (bw := bw) (bh := bh) (x := x) (y := y) (c := costI l W (x, y)) 4
      omega
  · have hsd := step_dir hk x y
    have hle := F.le (idxN W (x, y))
    unfold nearF
    rw [hsd.1, hsd.2]
    split
    · next hb =>
      by_cases hu : far (idxN W (x + dirX k, y + dirY k)) < infI
      · have hio := L.in_ hb
        have huo := F.open_ hu
        have huo' : openB l W bx byy bw bh (x + dirX k) (y + dirY k) = true := by
          have : opV (openB l W bx byy bw bh) W l.length (idxN W (x + dirX k, y + dirY k)) = true := huo
          rw [L.opV_idx hio] at this
          exact this
        have hl := lo _ hu
        have hm : idxN W (x + dirX k, y + dirY k) ∈ (mapNet L).adj (idxN W (x, y)) := by
          rw [hadj]
          exact List.mem_map.2 ⟨_, mem_nbC.2 ⟨k, hk, huo', rfl⟩, rfl⟩
        have := F.near _ hop hs _ hm huo (by rw [hc]; omega)
        rw [hc] at this
        unfold satS
        rw [if_pos (by omega)]
        exact this
      · have := F.le (idxN W (x + dirX k, y + dirY k))
        unfold satS
        split <;> omega
    · unfold satS
      split <;> omega

/-- What the law wants of a cell. -/
def wantF (far : Nat → Int) (l : List Int) (W bx byy bw bh fx fy x y : Int) : Int :=
  if x = fx ∧ y = fy ∧ 0 < costI l W (x, y) then 0 else if 0 < costI l W (x, y) ∧ hasB bx byy bw bh x y = true then leastF far W bx byy bw bh x y (costI l W (x, y)) 4 else infI
theorem want_far {W H : Int} {l : List Int} {bx byy bw bh fx fy : Int} (L : LandP W H l bx byy bw bh) {far : Nat → Int} (hb : hasB bx byy bw bh fx fy = true) (F : IsFar (mapNet L) (idxN W (fx, fy)) far) (lo : FarLow (mapNet L) far) {x y : Int} (h : 0 ≤ x ∧ x < W ∧ 0 ≤ y ∧ y < H) :
    far (idxN W (x, y)) = wantF far l W bx byy bw bh fx fy x y := by
  have hfi := L.in_ hb
  unfold wantF
  by_cases h1 : x = fx ∧ y = fy ∧ 0 < costI l W (x, y)
  · rw [if_pos h1]
    obtain ⟨rfl, rfl, hc⟩ := h1
    refine F.start ?_
    show opV _ _ _ _ = true
    rw [L.opV_idx h]
    unfold openB
    rw [hb, decide_eq_true hc]
    rfl
  · rw [if_neg h1]
    by_cases h2 : 0 < costI l W (x, y) ∧ hasB bx byy bw bh x y = true
    · rw [if_pos h2]
      refine (least_far L F lo (by unfold openB; rw [h2.2, decide_eq_true h2.1]; rfl) (fun e => h1 ⟨?_, ?_, h2.1⟩)).symm
      · have a := vx_idx (W := W) h.1 h.2.1 h.2.2.1
        have b := vx_idx (W := W) hfi.1 hfi.2.1 hfi.2.2.1
        rw [← a, ← b, e]
      · have a := vy_idx (W := W) h.1 h.2.1 h.2.2.1
        have b := vy_idx (W := W) hfi.1 hfi.2.1 hfi.2.2.1
        rw [← a, ← b, e]
    · rw [if_neg h2]
      refine F.shut _ ?_
      show opV _ _ _ _ = false
      rw [L.opV_idx h]
      unfold openB
      cases hb2 : hasB bx byy bw bh x y
      · rfl
      · simp only [Bool.true_and]
        exact decide_eq_false (fun hc => h2 ⟨hc, hb2⟩)
end Go.Proofs.Ytkonojjillcfiaa
