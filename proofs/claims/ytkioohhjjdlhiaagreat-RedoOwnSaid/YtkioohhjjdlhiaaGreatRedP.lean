/- Plain: the gates and tables of a world; on which costs they hang. -/
import Derived.Test.YtkioohhjjdlhiaaGreatSortI
import Derived.Test.YtkioohhjjdlhiaaGreatInP
set_option linter.all false
set_option linter.unusedVariables false
set_option linter.unusedSimpArgs false
namespace Go.Proofs.YtkioohhjjdlhiaaGreat
open Go.RowKit

/-- Costs that are the same in a cluster. -/
def SameIn (W H s id : Int) (l l' : List Int) : Prop := ∀ c : Cell, inB W H c.1 c.2 = true → ofN W s c.1 c.2 = id → costI l' W c = costI l W c

theorem btw_same {l l' : List Int} {W H s x y : Int} (hr : rightB W H s = true) (h0 : 0 ≤ min x y) (h1 : max x y < cnt W H s) (hn : hasI (besideL W H s (min x y)) (max x y) = true)
  (ha : SameIn W H s x l l') (hb : SameIn W H s y l l') : btw l' W H s x y = btw l W H s x y := by
 have hlt := ne_of_beside hr hn
 have hp := (near_pair hr h0 hlt h1).1 hn
 have ho : opB l' W (bords W H s x y) = opB l W (bords W H s x y) := by
  funext k
  unfold opB
  cases hk : (bords W H s x y)[k]? with
  | none => rfl
  | some p =>
   obtain ⟨z1, z2, z3, z4, _⟩ := border_at hr hp hk
   have e1 : costI l' W p.1 = costI l W p.1 := by
    rcases (by omega : min x y = x ∨ min x y = y) with e | e
    ·exact ha p.1 z1 (z3.trans e)
    ·exact hb p.1 z1 (z3.trans e)
   have e2 : costI l' W p.2 = costI l W p.2 := by
    rcases (by omega : max x y = x ∨ max x y = y) with e | e
    ·exact ha p.2 z2 (z4.trans e)
    ·exact hb p.2 z2 (z4.trans e)
   show openP l' W p = openP l W p
   unfold openP
   rw [e1, e2]
 unfold btw
 rw [ho]

/-- The gates of a cluster with its later neighbours, whatever stands between two. -/
def rowA (G : Int → Int → List (Cell × Cell)) (W H s a : Int) : List (Cell × Cell) := ((sortInt (besideL W H s a)).filter (fun b => decide (a < b))).flatMap (G a)
def allG (G : Int → Int → List (Cell × Cell)) (W H s : Int) (n : Nat) : List (Cell × Cell) := (List.range n).flatMap fun k : Nat => rowA G W H s (k : Int)
theorem allG_succ (G : Int → Int → List (Cell × Cell)) (W H s : Int) (n : Nat) : allG G W H s (n + 1) = allG G W H s n ++ rowA G W H s (n : Int) := by
 unfold allG; rw [List.range_succ, List.flatMap_append]; simp
theorem allG_of {G : Int → Int → List (Cell × Cell)} {l : List Int} {W H s : Int} {n : Nat} (hr : rightB W H s = true)
  (hG : ∀ a b, 0 ≤ a → a < n → b ∈ besideL W H s a → a < b → G a b = btw l W H s a b) : allG G W H s n = ofG l W H s n := by
 unfold allG ofG
 refine flat_congr fun k hk => ?_
 rw [List.mem_range] at hk
 unfold rowA rowG
 have e : (sortInt (besideL W H s (k : Int))).filter (fun b => decide ((k : Int) < b)) = (sortInt (besideL W H s (k : Int))).filter (fun b => decide ((k : Int) ≤ b)) := by
  refine List.filter_congr fun b hb => ?_
  have hb' := (sortInt_perm _).mem_iff.1 hb
  have hne : b ≠ (k : Int) := by
   rintro rfl
   have h := beside_self (id := (k : Int)) hr
   unfold hasI at h
   simp at h
   exact h hb'
  exact decide_eq_decide.2 (by omega)
 rw [← e]
 refine flat_congr fun b hb => ?_
 obtain ⟨h1, h2⟩ := List.mem_filter.1 hb
 exact hG _ _ (by omega) (by omega) ((sortInt_perm _).mem_iff.1 h1) (by simpa using h2)

theorem IsFar.like {G K : Net} {s : Nat} {f : Nat → Int} (ho : ∀ v, K.op v = G.op v) (hc : ∀ v, G.op v = true → K.cost v = G.cost v) (ha : ∀ v, K.adj v = G.adj v) (h : IsFar G s f) : IsFar K s f where
 start hs := h.start ((ho s).symm.trans hs)
 shut v hv := h.shut v ((ho v).symm.trans hv)
 nn := h.nn
 le := h.le
 near v hv hne u hu huo hlt := by
  rw [ho] at hv huo
  rw [ha] at hu
  rw [hc v hv] at hlt ⊢
  exact h.near v hv hne u hu huo hlt
 from_ v hv hne hlt := by
  rw [ho] at hv
  obtain ⟨u, h1, h2, h3⟩ := h.from_ v hv hne hlt
  exact ⟨u, by rw [ha]; exact h1, by rw [ho]; exact h2, by rw [hc v hv]; exact h3⟩

theorem openB_same {W : Int} {l l' : List Int} {bx byy bw bh : Int} (hs : ∀ x y, hasB bx byy bw bh x y = true → costI l' W (x, y) = costI l W (x, y)) : openB l' W bx byy bw bh = openB l W bx byy bw bh := by
 funext x y
 unfold openB
 cases h : hasB bx byy bw bh x y
 ·rfl
 ·rw [hs x y h]
theorem farD_same {W H : Int} {l l' : List Int} {bx byy bw bh : Int} (L : LandP W H l bx byy bw bh) (L' : LandP W H l' bx byy bw bh) (hl : l'.length = l.length)
  (hs : ∀ x y, hasB bx byy bw bh x y = true → costI l' W (x, y) = costI l W (x, y)) (c : Cell) (v : Nat) : farD L' c v = farD L c v := by
 refine farD_one L ?_ v
 have ho := openB_same (W := W) hs
 refine IsFar.like (G := mapNet L') (fun v => ?_) (fun v hv => ?_) (fun v => ?_) (farD_is L' c)
 ·show opV (openB l W bx byy bw bh) W l.length v = opV (openB l' W bx byy bw bh) W l'.length v
  rw [ho, hl]
 ·have hv' : opV (openB l' W bx byy bw bh) W l'.length v = true := hv
  unfold opV at hv'
  simp only [Bool.and_eq_true] at hv'
  have h1 := hs _ _ (open_has hv'.2).1
  rw [L.cost_v, L'.cost_v] at h1
  exact h1.symm
 ·show adjV (openB l W bx byy bw bh) W v = adjV (openB l' W bx byy bw bh) W v
  rw [ho]
theorem rowD_same {W H : Int} {l l' : List Int} {bx byy bw bh : Int} (L : LandP W H l bx byy bw bh) (L' : LandP W H l' bx byy bw bh) (hl : l'.length = l.length)
  (hs : ∀ x y, hasB bx byy bw bh x y = true → costI l' W (x, y) = costI l W (x, y)) (cs : List Cell) (c : Cell) : rowD L' cs c = rowD L cs c := by
 unfold rowD
 exact List.map_congr_left fun q _ => farD_same L L' hl hs c _

/-- A field that may be, and a side. -/
structure Good (W H s : Int) (l : List Int) : Prop where
 ok : checkE W H l.length = 0
 right : rightB W H s = true
 u16 : U16s l
theorem Good.box {W H s : Int} {l : List Int} (g : Good W H s l) {id : Int} (hi : 0 ≤ id ∧ id < cnt W H s) : boxL W H s id l := boxL_of g.ok g.right hi g.u16

/-- A table: its cells, and its rows. -/
abbrev Tab := List Cell × List (List Int)
open Classical in
noncomputable def tabL (W H s : Int) (l : List Int) (id : Int) (cs : List Cell) : Tab := (cs, if h : boxL W H s id l then cs.map (rowD h cs) else [])
theorem tabL_eq {W H s id : Int} {l : List Int} (L : boxL W H s id l) (cs : List Cell) : tabL W H s l id cs = (cs, cs.map (rowD L cs)) := by
 unfold tabL; rw [dif_pos L]

/-- All gates, a cluster's cells, its table. -/
def gatesA (W H s : Int) (l : List Int) : List (Cell × Cell) := ofG l W H s (cnt W H s).toNat
def celA (W H s : Int) (l : List Int) (id : Int) : List Cell := cellsL W H s id (gatesA W H s l)
noncomputable def tabA (W H s : Int) (l : List Int) (id : Int) : Tab := tabL W H s l id (celA W H s l id)

theorem tabL_same {W H s id : Int} {l l' : List Int} (g : Good W H s l) (g' : Good W H s l') (hi : 0 ≤ id ∧ id < cnt W H s) (h : SameIn W H s id l l') (cs : List Cell) : tabL W H s l' id cs = tabL W H s l id cs := by
 rw [tabL_eq (g.box hi), tabL_eq (g'.box hi)]
 have hl : l'.length = l.length := by
  have h1 := (checkE_ok.1 g.ok).2
  have h2 := (checkE_ok.1 g'.ok).2
  omega
 refine congrArg (Prod.mk cs) (List.map_congr_left fun c _ => rowD_same (g.box hi) (g'.box hi) hl (fun x y hh => ?_) cs c)
 rw [← inId_has g.right hi (x, y)] at hh
 unfold inId at hh
 simp only [Bool.and_eq_true, decide_eq_true_eq] at hh
 exact h (x, y) hh.1 hh.2
theorem tabA_stays {W H s id : Int} {l l' : List Int} (g : Good W H s l) (g' : Good W H s l') (hi : 0 ≤ id ∧ id < cnt W H s) (h : SameIn W H s id l l') (hc : celA W H s l' id = celA W H s l id) : tabA W H s l' id = tabA W H s l id := by
 unfold tabA
 rw [hc]
 exact tabL_same g g' hi h _
end Go.Proofs.YtkioohhjjdlhiaaGreat
