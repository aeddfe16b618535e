/- The walk of redo's build: the gates. -/
import Derived.Test.YtkioohhjjdlhiaaGreatRedC
set_option linter.all false
set_option linter.unusedVariables false
set_option linter.unusedSimpArgs false
namespace Go.Proofs.YtkioohhjjdlhiaaGreat
open Go.RowKit

/-- Two clusters that lie side by side, the lesser one first. -/
def Near (W H s a b : Int) : Prop := 0 ≤ a ∧ b < cnt W H s ∧ a < b ∧ b ∈ besideL W H s a
theorem btw_mm (l : List Int) (W H s x y : Int) : btw l W H s (min x y) (max x y) = btw l W H s x y := by
 unfold btw bords
 rw [show min (min x y) (max x y) = min x y by omega, show max (min x y) (max x y) = max x y by omega]
theorem beside_near {W H s a b : Int} (hr : rightB W H s = true) (h0 : 0 ≤ a) (ha : a < cnt W H s) (hb : b ∈ besideL W H s a) : Near W H s (min a b) (max a b) := by
 have hrg := beside_rng hr h0 ha hb
 have hne : b ≠ a := by
  rintro rfl
  have h := beside_self (id := b) hr
  rw [hasI_iff.2 hb] at h
  cases h
 by_cases hlt : a < b
 ·rw [show min a b = a by omega, show max a b = b by omega]
  exact ⟨h0, hrg.2, hlt, hb⟩
 ·rw [show min a b = b by omega, show max a b = a by omega]
  obtain ⟨h1, h2, h3, h4, h5, h6⟩ := rightB_true.1 hr
  have b1 := acr_bd W s h5 h6 h1 h2
  have hp : Pair W H s b a := by
   refine ⟨hrg.1, ha, ?_⟩
   rcases beside_mem.1 hb with ⟨h, e⟩ | ⟨h, e⟩ | ⟨h, e⟩ | ⟨h, e⟩
   ·right; omega
   ·omega
   ·omega
   ·left
    refine ⟨by omega, ?_⟩
    have e1 := Int.emod_add_mul_ediv a (acr W s)
    have e2 : b = (a % acr W s - 1) + acr W s * (a / acr W s) := by omega
    have e3 := Int.emod_lt_of_pos a (show 0 < acr W s by omega)
    rw [e2, Int.add_mul_emod_self_left, Int.emod_eq_of_lt (by omega) (by omega)]
    omega
  exact ⟨hrg.1, ha, by omega, (hp.mem hr).1⟩
theorem near_has {W H s a b : Int} (h : Near W H s a b) : hasI (besideL W H s a) b = true := hasI_iff.2 h.2.2.2
theorem near_back {W H s a b : Int} (hr : rightB W H s = true) (h : Near W H s a b) : a ∈ besideL W H s b := (((near_pair hr h.1 h.2.2.1 h.2.1).1 (near_has h)).mem hr).2

/-- The gates with all clusters below k that turned are told. -/
def Inv (W H s : Int) (l : List Int) (tu : List Bool) (G0 : Int → Int → Option (List (Cell × Cell))) (k : Nat) (G : Int → Int → Option (List (Cell × Cell))) : Prop :=
 ∀ a b, Near W H s a b → ((tu.getD a.toNat false = true ∧ a < k) ∨ (tu.getD b.toNat false = true ∧ b < k) ∨ G0 a b = some (btw l W H s a b)) → G a b = some (btw l W H s a b)
/-- .. and those of one more with its first j neighbours. -/
def InvJ (W H s : Int) (l : List Int) (G : Int → Int → Option (List (Cell × Cell))) (k : Nat) (L : List Int) (j : Nat) : Prop :=
 ∀ (i : Nat) (b : Int), i < j → L[i]? = some b → G (min (k : Int) b) (max (k : Int) b) = some (btw l W H s (k : Int) b)

section
variable {W H s : Int} {l : List Int} {tu : List Bool} {G0 G : Int → Int → Option (List (Cell × Cell))} {k : Nat} {L : List Int} {j : Nat}
theorem Inv.skip (h : Inv W H s l tu G0 k G) (ht : tu[k]? = some false) : Inv W H s l tu G0 (k + 1) G := fun a b hn hc => by
 have hf : tu.getD k false = false := by simp [List.getD_eq_getElem?_getD, ht]
 refine h a b hn ?_
 obtain ⟨n1, n2, n3, n4⟩ := hn
 rcases hc with ⟨h1, h2⟩ | ⟨h1, h2⟩ | h1
 ·refine .inl ⟨h1, ?_⟩
  by_cases e : a = k
  ·subst e; simp only [Int.toNat_natCast] at h1; rw [hf] at h1; cases h1
  ·omega
 ·refine .inr (.inl ⟨h1, ?_⟩)
  by_cases e : b = k
  ·subst e; simp only [Int.toNat_natCast] at h1; rw [hf] at h1; cases h1
  ·omega
 ·exact .inr (.inr h1)
theorem Inv.put (h : Inv W H s l tu G0 k G) (b : Int) : Inv W H s l tu G0 k (updG G (min (k : Int) b) (max (k : Int) b) (btw l W H s (k : Int) b)) := fun a c hn hc => by
 unfold updG
 by_cases e : a = min (k : Int) b ∧ c = max (k : Int) b
 ·rw [if_pos e, e.1, e.2, btw_mm]
 ·rw [if_neg e]; exact h a c hn hc
theorem InvJ.put (h : InvJ W H s l G k L j) {b : Int} (hb : L[j]? = some b) : InvJ W H s l (updG G (min (k : Int) b) (max (k : Int) b) (btw l W H s (k : Int) b)) k L (j + 1) := fun i c hi hc => by
 unfold updG
 by_cases e : min (k : Int) c = min (k : Int) b ∧ max (k : Int) c = max (k : Int) b
 ·rw [if_pos e]
  obtain rfl : c = b := by omega
  rfl
 ·rw [if_neg e]
  refine h i c ?_ hc
  by_cases hij : i = j
  ·subst hij
   rw [hb] at hc
   cases hc
   exact absurd ⟨rfl, rfl⟩ e
  ·omega
theorem Inv.next (hr : rightB W H s = true) (h : Inv W H s l tu G0 k G) (hj : InvJ W H s l G k (besideL W H s (k : Int)) (besideL W H s (k : Int)).length) : Inv W H s l tu G0 (k + 1) G := fun a b hn hc => by
 have hJ : ∀ c, c ∈ besideL W H s (k : Int) → G (min (k : Int) c) (max (k : Int) c) = some (btw l W H s (k : Int) c) := fun c hc => by
  obtain ⟨i, hi, rfl⟩ := List.getElem_of_mem hc
  exact hj i _ hi (List.getElem?_eq_getElem hi)
 have hlt := hn.2.2.1
 by_cases ea : a = k
 ·have h2 := hJ b (by rw [← ea]; exact hn.2.2.2)
  rw [← ea, show min a b = a by omega, show max a b = b by omega] at h2
  exact h2
 ·by_cases eb : b = k
  ·have h2 := hJ a (by rw [← eb]; exact near_back hr hn)
   rw [← btw_mm, ← eb, show min b a = a by omega, show max b a = b by omega] at h2
   exact h2
  ·refine h a b hn ?_
   rcases hc with ⟨h1, h2⟩ | ⟨h1, h2⟩ | h1
   ·exact .inl ⟨h1, by omega⟩
   ·exact .inr (.inl ⟨h1, by omega⟩)
   ·exact .inr (.inr h1)
theorem Inv.full {n : Nat} (h : Inv W H s l tu G0 n G) (hn : (n : Int) = cnt W H s) (hG : ∀ a b, Near W H s a b → tu.getD a.toNat false = true ∨ tu.getD b.toNat false = true ∨ G0 a b = some (btw l W H s a b)) : GFull W H s l G := fun a b h0 hb hlt hm => by
 have hnr : Near W H s a b := ⟨h0, hb, hlt, hm⟩
 refine h a b hnr ?_
 rcases hG a b hnr with h1 | h1 | h1
 ·exact .inl ⟨h1, by omega⟩
 ·exact .inr (.inl ⟨h1, by omega⟩)
 ·exact .inr (.inr h1)
end
end Go.Proofs.YtkioohhjjdlhiaaGreat
