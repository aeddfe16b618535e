/- Plain: the cells of gates in a box, row by row. -/
import Derived.Test.YtkioohhjjdlhiaaCmpP
import Derived.Test.YtkioohhjjdlhiaaRefC
set_option linter.all false
set_option linter.unusedVariables false
set_option linter.unusedSimpArgs false
namespace Go.Proofs.Ytkioohhjjdlhiaa
open Go.RowKit

/-- A row of a box. -/
def boxRow (bx bw y : Int) : List Cell := (List.range bw.toNat).map fun i : Nat => (bx + (i : Int), y)
/-- A box's cells, row by row. -/
def boxCells (bx byy bw bh : Int) : List Cell := (List.range bh.toNat).flatMap fun j : Nat => boxRow bx bw (byy + (j : Int))
def gIn (L : List (Cell × Cell)) (c : Cell) : Bool := L.any fun g => cellB g.1 c || cellB g.2 c
def cellsB (bx byy bw bh : Int) (L : List (Cell × Cell)) : List Cell := (boxCells bx byy bw bh).filter (gIn L)
/-- The cells of gates in a cluster. -/
def cellsL (W H s id : Int) (L : List (Cell × Cell)) : List Cell := cellsB (boxX W s id) (boxY W s id) (boxW W s id) (boxH W H s id) L

theorem boxRow_mem {bx bw y : Int} {c : Cell} : c ∈ boxRow bx bw y ↔ bx ≤ c.1 ∧ c.1 < bx + bw ∧ c.2 = y := by
  unfold boxRow
  rw [List.mem_map]
  constructor
  · rintro ⟨i, hi, rfl⟩
    rw [List.mem_range] at hi
    exact ⟨by simp only; omega, by simp only; omega, rfl⟩
  · rintro ⟨h1, h2, h3⟩
    refine ⟨(c.1 - bx).toNat, List.mem_range.2 (by omega), Prod.ext ?_ h3.symm⟩
    simp only
    omega
theorem boxCells_mem {bx byy bw bh : Int} {c : Cell} : c ∈ boxCells bx byy bw bh ↔ bx ≤ c.1 ∧ c.1 < bx + bw ∧ byy ≤ c.2 ∧ c.2 < byy + bh := by
  unfold boxCells
  rw [List.mem_flatMap]
  constructor
  · rintro ⟨j, hj, hc⟩
    rw [List.mem_range] at hj
    rw [boxRow_mem] at hc
    omega
  · rintro ⟨h1, h2, h3, h4⟩
    exact ⟨(c.2 - byy).toNat, List.mem_range.2 (by omega), boxRow_mem.2 ⟨h1, h2, by omega⟩⟩
theorem boxRow_strict (bx bw y : Int) : (boxRow bx bw y).Pairwise ltC := by
  unfold boxRow
  rw [List.pairwise_map]
  refine List.Pairwise.imp (fun {a b} h => ?_) (List.pairwise_lt_range)
  unfold ltC
  right
  exact ⟨rfl, by simp only; omega⟩
theorem boxCells_strict (bx byy bw bh : Int) : (boxCells bx byy bw bh).Pairwise ltC := by
  unfold boxCells
  generalize bh.toNat = n
  induction n with
  | zero => simp
  | succ n ih =>
    rw [List.range_succ, List.flatMap_append, List.pairwise_append]
    refine ⟨ih, by simpa using boxRow_strict bx bw _, fun a ha b hb => ?_⟩
    rw [List.mem_flatMap] at ha
    obtain ⟨j, hj, ha⟩ := ha
    rw [List.mem_range] at hj
    simp only [List.flatMap_cons, List.flatMap_nil, List.append_nil] at hb
    rw [boxRow_mem] at ha hb
    unfold ltC
    left
    omega
theorem cellsB_strict (bx byy bw bh : Int) (L : List (Cell × Cell)) : (cellsB bx byy bw bh L).Pairwise ltC := (boxCells_strict bx byy bw bh).filter _
theorem gIn_iff {L : List (Cell × Cell)} {c : Cell} : gIn L c = true ↔ ∃ g ∈ L, g.1 = c ∨ g.2 = c := by
  unfold gIn
  simp only [List.any_eq_true, Bool.or_eq_true, cellB_eq, decide_eq_true_eq]
/-- Is a cell on the map, and in a cluster? -/
def inK (W H s id : Int) (c : Cell) : Prop := inB W H c.1 c.2 = true ∧ ofN W s c.1 c.2 = id
theorem cellsL_mem {W H s id : Int} (hr : rightB W H s = true) (h0 : 0 ≤ id) (hid : id < cnt W H s) {L : List (Cell × Cell)} {c : Cell} : c ∈ cellsL W H s id L ↔ inK W H s id c ∧ gIn L c = true := by
  unfold cellsL cellsB
  rw [List.mem_filter]
  refine and_congr_left (fun _ => ?_)
  rw [boxCells_mem]
  unfold inK
  have hb := box_bd hr h0 hid
  have hs := box_sz hr h0 hid
  obtain ⟨r1, r2, r3, r4, r5, r6⟩ := rightB_true.1 hr
  have key : ∀ hi : inB W H c.1 c.2 = true, (boxX W s id ≤ c.1 ∧ c.1 < boxX W s id + boxW W s id ∧ boxY W s id ≤ c.2 ∧ c.2 < boxY W s id + boxH W H s id) ↔ ofN W s c.1 c.2 = id := fun hi => by
    rw [show (ofN W s c.1 c.2 = id) ↔ (id = ofN W s c.1 c.2) from eq_comm, ← hasP_box hr hi h0 hid]
    unfold hasP boxP
    rw [hasB_true]
  constructor
  · intro h
    have hi : inB W H c.1 c.2 = true := by
      rw [inB_true]
      unfold boxW boxH at h hs
      omega
    exact ⟨hi, (key hi).1 h⟩
  · rintro ⟨hi, he⟩
    exact (key hi).2 he
theorem cellsL_strict (W H s id : Int) (L : List (Cell × Cell)) : (cellsL W H s id L).Pairwise ltC := cellsB_strict _ _ _ _ _
theorem cellsB_len {bx byy bw bh : Int} (L : List (Cell × Cell)) (h1 : bw ≤ 16) (h2 : bh ≤ 16) : (cellsB bx byy bw bh L).length ≤ 256 := by
  unfold cellsB
  refine Nat.le_trans (List.length_filter_le _ _) ?_
  unfold boxCells
  have : ∀ n : Nat, n ≤ 16 → ((List.range n).flatMap fun j : Nat => boxRow bx bw (byy + (j : Int))).length ≤ n * 16 := by
    intro n hn
    induction n with
    | zero => simp
    | succ n ih =>
      rw [List.range_succ, List.flatMap_append, List.length_append]
      have h3 := ih (by omega)
      have h4 : (boxRow bx bw (byy + (n : Int))).length ≤ 16 := by unfold boxRow; simp; omega
      simp only [List.flatMap_cons, List.flatMap_nil, List.append_nil]
      omega
  have := this bh.toNat (by omega)
  omega
theorem cellsL_len {W H s id : Int} (hr : rightB W H s = true) (h0 : 0 ≤ id) (hid : id < cnt W H s) (L : List (Cell × Cell)) : (cellsL W H s id L).length ≤ 256 := by
  have hs := box_sz hr h0 hid
  exact cellsB_len L (by omega) (by omega)
end Go.Proofs.Ytkioohhjjdlhiaa
