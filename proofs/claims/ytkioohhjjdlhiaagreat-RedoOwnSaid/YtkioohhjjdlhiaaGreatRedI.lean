/- Plain: which updates may be, and what they come to. -/
import Derived.Test.YtkioohhjjdlhiaaGreatRedE
set_option linter.all false
set_option linter.unusedVariables false
set_option linter.unusedSimpArgs false
namespace Go.Proofs.YtkioohhjjdlhiaaGreat
open Go.RowKit

/-- Which numbers are some cell's. -/
def mrk (f : Cell → Nat) (n : Nat) (cs : List Cell) : List Bool := (List.range n).map fun i => cs.any fun c => f c == i
theorem mrk_len (f : Cell → Nat) (n : Nat) (cs : List Cell) : (mrk f n cs).length = n := by simp [mrk]
theorem mrk_nil (f : Cell → Nat) (n : Nat) : mrk f n [] = List.replicate n false := by
 unfold mrk
 simp only [List.any_nil]
 induction n with
 | zero => rfl
 | succ n ih => rw [List.range_succ, List.map_append, ih, List.replicate_succ']; rfl
theorem mrk_at {f : Cell → Nat} {n i : Nat} {cs : List Cell} (hi : i < n) : (mrk f n cs)[i]? = some (cs.any fun c => f c == i) := by
 unfold mrk
 rw [List.getElem?_map, List.getElem?_range hi]
 rfl
theorem mrk_getD {f : Cell → Nat} {n i : Nat} {cs : List Cell} (hi : i < n) : (mrk f n cs).getD i false = cs.any fun c => f c == i := by
 rw [List.getD_eq_getElem?_getD, mrk_at hi]; rfl
theorem mrk_snoc {f : Cell → Nat} {n : Nat} {cs : List Cell} {c : Cell} (h : f c < n) : mrk f n (cs ++ [c]) = (mrk f n cs).set (f c) true := by
 apply List.ext_getElem?
 intro i
 rw [List.getElem?_set]
 by_cases hi : i < n
 ·rw [mrk_at hi, mrk_len]
  by_cases he : f c = i
  ·subst he
   rw [if_pos rfl, if_pos h]
   simp
  ·rw [if_neg he, mrk_at hi]
   simp [he]
 ·rw [List.getElem?_eq_none (by rw [mrk_len]; omega)]
  rw [if_neg (by omega), List.getElem?_eq_none (by rw [mrk_len]; omega)]

def idC (W s : Int) (c : Cell) : Nat := (ofN W s c.1 c.2).toNat
theorem idC_int {W H s : Int} (hr : rightB W H s = true) {c : Cell} (h : inB W H c.1 c.2 = true) : ((idC W s c : Nat) : Int) = ofN W s c.1 c.2 := by
 have := ofN_bd hr h
 unfold idC
 omega
theorem idx_eq {W H : Int} {c d : Cell} (hc : inB W H c.1 c.2 = true) (hd : inB W H d.1 d.2 = true) (h : idxN W c = idxN W d) : c = d := by
 have c1 := inB_true.1 hc
 have d1 := inB_true.1 hd
 have ex : vx W (idxN W (c.1, c.2)) = c.1 := vx_idx (by omega) (by omega) (by omega)
 have ey : vy W (idxN W (c.1, c.2)) = c.2 := vy_idx (by omega) (by omega) (by omega)
 have fx : vx W (idxN W (d.1, d.2)) = d.1 := vx_idx (by omega) (by omega) (by omega)
 have fy : vy W (idxN W (d.1, d.2)) = d.2 := vy_idx (by omega) (by omega) (by omega)
 have e : idxN W (c.1, c.2) = idxN W (d.1, d.2) := h
 rw [e] at ex ey
 exact Prod.ext (ex.symm.trans fx) (ey.symm.trans fy)
theorem idx_len {W H : Int} {l : List Int} (hl : (l.length : Int) = W * H) {c : Cell} (hc : inB W H c.1 c.2 = true) : idxN W c < l.length := by
 have c1 := inB_true.1 hc
 have h1 := idx_bd (W := W) (H := H) (x := c.1) (y := c.2) (by omega) (by omega) (by omega) (by omega)
 have h2 : ((idxN W (c.1, c.2) : Nat) : Int) = c.2 * W + c.1 := idx_int (by omega) (by omega) (by omega)
 have h3 : idxN W c = idxN W (c.1, c.2) := rfl
 omega

/-- Is no other cost another one than those of the cells named? -/
def keptB (W : Int) (l l' : List Int) (cs : List Cell) : Bool := (List.range l'.length).all fun i => decide (l'.getD i 0 = l.getD i 0) || cs.any fun c => idxN W c == i
/-- What is wrong with an update. -/
def updE (W H : Int) (l : List Int) (W' H' : Int) (l' : List Int) (cs : List Cell) : Int :=
 if checkE W' H' l'.length = 0 then (if W' = W ∧ H' = H then (if cs.all (fun c => inB W H c.1 c.2) = true then (if keptB W l l' cs = true then 0 else 1) else 10) else 10) else checkE W' H' l'.length

theorem same_of {W H s id : Int} {l l' : List Int} {cs : List Cell} (g : Good W H s l) (g' : Good W H s l') (hin : cs.all (fun c => inB W H c.1 c.2) = true) (hk : keptB W l l' cs = true) (hi : 0 ≤ id) (hno : (cs.any fun c => idC W s c == id.toNat) = false) : SameIn W H s id l l' := fun c hc he => by
 have hl' := (checkE_ok.1 g'.ok).2
 have hix := idx_len hl' hc
 unfold keptB at hk
 rw [List.all_eq_true] at hk
 have h1 := hk (idxN W c) (List.mem_range.2 hix)
 rw [Bool.or_eq_true] at h1
 rcases h1 with h1 | h1
 ·exact of_decide_eq_true h1
 ·exfalso
  obtain ⟨d, hd, hde⟩ := List.any_eq_true.1 h1
  have hdi := List.all_eq_true.1 hin d hd
  have e : d = c := idx_eq hdi hc (by simpa using hde)
  subst e
  have h2 : (cs.any fun c => idC W s c == id.toNat) = true := List.any_eq_true.2 ⟨d, hd, by
   have := idC_int g.right hc
   rw [he] at this
   simp
   omega⟩
  rw [h2] at hno
  cases hno

/-- The clusters that an update tells. -/
def toldU (W H s : Int) (l l' : List Int) (cs : List Cell) (N : Nat) : List Int :=
 ((List.range N).filter fun i => (cs.any fun c => idC W s c == i) || !(decide (celA W H s l' (i : Int) = celA W H s l (i : Int)))).map fun i : Nat => (i : Int)

theorem upd_near {W H s : Int} {l l' : List Int} {cs : List Cell} {N : Nat} {G : Int → Int → Option (List (Cell × Cell))} (g : Good W H s l) (g' : Good W H s l') (hN : cnt W H s = (N : Int)) (hin : cs.all (fun c => inB W H c.1 c.2) = true) (hk : keptB W l l' cs = true) (hG : GFull W H s l G) :
  ∀ a b, Near W H s a b → (mrk (idC W s) N cs).getD a.toNat false = true ∨ (mrk (idC W s) N cs).getD b.toNat false = true ∨ G a b = some (btw l' W H s a b) := fun a b hn => by
 have hn' := hn
 obtain ⟨h1, h2, h3, h4⟩ := hn
 rw [mrk_getD (by omega), mrk_getD (by omega)]
 by_cases ha : (cs.any fun c => idC W s c == a.toNat) = true
 ·exact .inl ha
 ·by_cases hb : (cs.any fun c => idC W s c == b.toNat) = true
  ·exact .inr (.inl hb)
  ·refine .inr (.inr ?_)
   rw [hG a b h1 h2 h3 h4]
   have sa := same_of g g' hin hk h1 (by simpa using ha)
   have sb := same_of g g' hin hk (show 0 ≤ b by omega) (by simpa using hb)
   rw [btw_same g.right (by omega) (by omega) (by rw [show min a b = a by omega, show max a b = b by omega]; exact near_has hn') sa sb]
theorem upd_tabs {W H s : Int} {l l' : List Int} {cs : List Cell} {N : Nat} {T : List Tab} (g : Good W H s l) (g' : Good W H s l') (hN : cnt W H s = (N : Int)) (hT : T.length = N) (hin : cs.all (fun c => inB W H c.1 c.2) = true) (hk : keptB W l l' cs = true) (hF : ∀ i : Nat, i < T.length → T[i]? = some (tabA W H s l (i : Int))) :
  (∀ i, i < N → staleB W H s l' (mrk (idC W s) N cs) T i = ((cs.any fun c => idC W s c == i) || !(decide (celA W H s l' (i : Int) = celA W H s l (i : Int))))) ∧ ∀ i, i < N → newT W H s l' (mrk (idC W s) N cs) T i = tabA W H s l' (i : Int) := by
 have hD : ∀ i, i < N → T.getD i ([], []) = tabA W H s l (i : Int) := fun i hi => by rw [List.getD_eq_getElem?_getD, hF i (by omega)]; rfl
 have h1 : ∀ i, i < N → staleB W H s l' (mrk (idC W s) N cs) T i = ((cs.any fun c => idC W s c == i) || !(decide (celA W H s l' (i : Int) = celA W H s l (i : Int)))) := fun i hi => by
  unfold staleB
  rw [mrk_getD hi, hD i hi]
  rfl
 refine ⟨h1, fun i hi => ?_⟩
 unfold newT
 rw [h1 i hi]
 split
 ·rfl
 ·next h =>
  rw [hD i hi]
  simp only [Bool.not_eq_true, Bool.or_eq_false_iff, Bool.not_eq_false', decide_eq_true_eq] at h
  exact (tabA_stays g g' ⟨by omega, by omega⟩ (same_of g g' hin hk (by omega) (by simpa using h.1)) h.2).symm
theorem toldU_eq {W H s : Int} {l l' : List Int} {cs : List Cell} {N : Nat} {T : List Tab} (h : ∀ i, i < N → staleB W H s l' (mrk (idC W s) N cs) T i = ((cs.any fun c => idC W s c == i) || !(decide (celA W H s l' (i : Int) = celA W H s l (i : Int))))) : toldL W H s l' (mrk (idC W s) N cs) T N = toldU W H s l l' cs N := by
 unfold toldL toldU
 refine congrArg (List.map _) (List.filter_congr fun i hi => h i (List.mem_range.1 hi))
end Go.Proofs.YtkioohhjjdlhiaaGreat
