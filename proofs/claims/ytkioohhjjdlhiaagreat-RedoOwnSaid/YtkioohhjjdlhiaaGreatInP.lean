/- Cells of a cluster, and how far they are from each other, in plain words. -/
import Derived.Test.YtkioohhjjdlhiaaGreatRefC
import Derived.Test.YtkioohhjjdlhiaaGreatHeapA
set_option linter.all false
set_option linter.unusedVariables false
set_option linter.unusedSimpArgs false
namespace Go.Proofs.YtkioohhjjdlhiaaGreat

def riseB (p q : Cell) : Bool := decide (p.2 < q.2) || (decide (q.2 = p.2) && decide (p.1 < q.1))
def inId (W H s id : Int) (c : Cell) : Bool := inB W H c.1 c.2 && decide (ofN W s c.1 c.2 = id)
/-- What is wrong with one of the cells. -/
def cellBad (W H s id : Int) (l : List Cell) (i : Nat) : Int := if inId W H s id (l.getD i (0, 0)) = false then 10 else if 0 < i ∧ riseB (l.getD (i - 1) (0, 0)) (l.getD i (0, 0)) = false then 11 else 0
def cellsE (W H s id : Int) (l : List Cell) : Nat → Int
 | 0 => 0
 | k + 1 => if cellsE W H s id l k = 0 then cellBad W H s id l k else cellsE W H s id l k
theorem cellsE_stays {W H s id : Int} {l : List Cell} {k : Nat} (h : cellsE W H s id l k ≠ 0) : ∀ m, cellsE W H s id l (k + m) = cellsE W H s id l k
 | 0 => rfl
 | m + 1 => by
  show (if cellsE W H s id l (k + m) = 0 then _ else _) = _
  have ih := cellsE_stays h m
  rw [if_neg (by rw [ih]; exact h)]
  exact ih
theorem cellsE_at {W H s id : Int} {l : List Cell} {k : Nat} (h : cellsE W H s id l k = 0) (hb : cellBad W H s id l k ≠ 0) {n : Nat} (hn : k < n) : cellsE W H s id l n = cellBad W H s id l k := by
 have h1 : cellsE W H s id l (k + 1) = cellBad W H s id l k := if_pos h
 obtain ⟨m, rfl⟩ : ∃ m, n = k + 1 + m := ⟨n - (k + 1), by omega⟩
 rw [cellsE_stays (by rw [h1]; exact hb), h1]
theorem cellsE_next {W H s id : Int} {l : List Cell} {k : Nat} (h : cellsE W H s id l k = 0) (hb : cellBad W H s id l k = 0) : cellsE W H s id l (k + 1) = 0 := (if_pos h).trans hb
theorem cellsE_zero {W H s id : Int} {l : List Cell} : ∀ {n : Nat}, cellsE W H s id l n = 0 → ∀ k, k < n → cellBad W H s id l k = 0
 | 0, _, k, hk => absurd hk (Nat.not_lt_zero k)
 | n + 1, h, k, hk => by
  have h1 : (if cellsE W H s id l n = 0 then cellBad W H s id l n else cellsE W H s id l n) = 0 := h
  split at h1
  ·next h2 =>
   by_cases e : k = n
   ·rw [e]; exact h1
   ·exact cellsE_zero h2 k (by omega)
  ·next h2 => exact absurd h1 h2
theorem cellBad_zero {W H s id : Int} {l : List Cell} {k : Nat} (h : cellBad W H s id l k = 0) : inId W H s id (l.getD k (0, 0)) = true := by
 unfold cellBad at h
 split at h
 ·cases h
 ·next h1 => cases hi : inId W H s id (l.getD k (0, 0)); exact absurd hi h1; rfl

/-- What is wrong with a cluster and its cells. -/
def innerE (W H : Int) (n : Nat) (PW PH s id : Int) (l : List Cell) : Int :=
 if checkE W H n = 0 then (if PW = W ∧ PH = H then (if rightB PW PH s = true then (if bad PW PH s id = true then 10 else cellsE PW PH s id l l.length) else 1) else 1) else checkE W H n
theorem innerE_ok {W H : Int} {n : Nat} {PW PH s id : Int} {l : List Cell} : innerE W H n PW PH s id l = 0 ↔ checkE W H n = 0 ∧ PW = W ∧ PH = H ∧ rightB W H s = true ∧ (0 ≤ id ∧ id < cnt W H s) ∧ cellsE W H s id l l.length = 0 := by
 unfold innerE
 constructor
 ·intro h
  split at h
  ·next h1 =>
   split at h
   ·next h2 =>
    obtain ⟨rfl, rfl⟩ := h2
    split at h
    ·next h3 =>
     split at h
     ·cases h
     ·next h4 => exact ⟨h1, rfl, rfl, h3, bad_false_iff.1 (by simpa using h4), h⟩
    ·cases h
   ·cases h
  ·next h1 => exact absurd h h1
 ·rintro ⟨h1, rfl, rfl, h3, h4, h5⟩
  rw [if_pos h1, if_pos ⟨rfl, rfl⟩, if_pos h3, if_neg (by rw [bad_false_iff.2 h4]; simp), h5]

/-- The cluster's box, on the map. -/
def boxL (W H s id : Int) (l : List Int) : Prop := LandP W H l (boxX W s id) (boxY W s id) (boxW W s id) (boxH W H s id)
theorem boxL_of {W H s id : Int} {l : List Int} (hc : checkE W H l.length = 0) (hr : rightB W H s = true) (hi : 0 ≤ id ∧ id < cnt W H s) (hu : U16s l) : boxL W H s id l := by
 obtain ⟨hm, hl⟩ := checkE_ok.1 hc
 exact ⟨hm, hl, hu, fits_box hr hi.1 hi.2⟩
theorem inId_has {W H s id : Int} (hr : rightB W H s = true) (hi : 0 ≤ id ∧ id < cnt W H s) (c : Cell) : inId W H s id c = hasB (boxX W s id) (boxY W s id) (boxW W s id) (boxH W H s id) c.1 c.2 := by
 unfold inId
 have hh : ∀ b, hasP c.1 c.2 (boxP W H s id) = b → hasB (boxX W s id) (boxY W s id) (boxW W s id) (boxH W H s id) c.1 c.2 = b := fun b h => by rw [← h]; rfl
 cases hb : inB W H c.1 c.2
 ·rw [hh _ (hasP_off hr hb hi.1 hi.2)]; rfl
 ·have h := hasP_box hr hb hi.1 hi.2
  rw [Bool.true_and]
  by_cases e : id = ofN W s c.1 c.2
  ·rw [hh _ (h.2 e)]; simpa using e.symm
  ·rw [hh false (by cases k : hasP c.1 c.2 (boxP W H s id); rfl; exact absurd (h.1 k) e)]
   simpa using fun k => e k.symm

/-- How far cells are from one, within a box. -/
noncomputable def farD {W H : Int} {l : List Int} {bx byy bw bh : Int} (L : LandP W H l bx byy bw bh) (c : Cell) : Nat → Int := Classical.choose (far_all (mapNet L) (idxN W c))
theorem farD_is {W H : Int} {l : List Int} {bx byy bw bh : Int} (L : LandP W H l bx byy bw bh) (c : Cell) : IsFar (mapNet L) (idxN W c) (farD L c) := Classical.choose_spec (far_all (mapNet L) (idxN W c))
theorem farD_one {W H : Int} {l : List Int} {bx byy bw bh : Int} (L : LandP W H l bx byy bw bh) {c : Cell} {D : Nat → Int} (F : IsFar (mapNet L) (idxN W c) D) (v : Nat) : D v = farD L c v := F.same (farD_is L c) v
noncomputable def rowD {W H : Int} {l : List Int} {bx byy bw bh : Int} (L : LandP W H l bx byy bw bh) (cs : List Cell) (c : Cell) : List Int := cs.map (fun q => farD L c (idxN W q))
end Go.Proofs.YtkioohhjjdlhiaaGreat
