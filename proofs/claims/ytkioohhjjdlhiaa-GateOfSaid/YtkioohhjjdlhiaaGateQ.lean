/- Plain: all gates, cluster by cluster, are the reference's, pair of clusters by pair of clusters. -/
import Derived.Test.YtkioohhjjdlhiaaGateO
set_option linter.all false
set_option linter.unusedVariables false
set_option linter.unusedSimpArgs false
namespace Go.Proofs.Ytkioohhjjdlhiaa
open Go.RowKit

theorem ints_unique : ∀ {l l' : List Int}, l.Pairwise (· < ·) → l'.Pairwise (· < ·) → (∀ c, c ∈ l ↔ c ∈ l') → l = l'
  | [], [], _, _, _ => rfl
  | [], b :: r, _, _, h => by have := (h b).2 (by simp); simp at this
  | a :: r, [], _, _, h => by have := (h a).1 (by simp); simp at this
  | a :: r, b :: r', h1, h2, h => by
    have ha := List.pairwise_cons.1 h1
    have hb := List.pairwise_cons.1 h2
    have e : a = b := by
      rcases List.mem_cons.1 ((h a).1 (by simp)) with e | e
      · exact e
      · rcases List.mem_cons.1 ((h b).2 (by simp)) with e' | e'
        · exact e'.symm
        · have q1 := hb.1 a e
          have q2 := ha.1 b e'
          omega
    subst e
    congr 1
    refine ints_unique ha.2 hb.2 (fun c => ⟨fun hc => ?_, fun hc => ?_⟩)
    · rcases List.mem_cons.1 ((h c).1 (by simp [hc])) with e | e
      · subst e; have := ha.1 c hc; omega
      · exact e
    · rcases List.mem_cons.1 ((h c).2 (by simp [hc])) with e | e
      · subst e; have := hb.1 c hc; omega
      · exact e
theorem sortInt_strict {l : List Int} (h : l.Nodup) : (sortInt l).Pairwise (· < ·) := by
  have h1 := sortInt_sorted l
  have h2 : (sortInt l).Nodup := (sortInt_perm l).nodup_iff.2 h
  exact List.Pairwise.imp₂ (fun a b (h : a ≤ b) (h' : a ≠ b) => by omega) h1 h2
theorem beside_nodup {W H s id : Int} (hr : rightB W H s = true) : (besideL W H s id).Nodup := by
  obtain ⟨h1, h2, h3, h4, h5, h6⟩ := rightB_true.1 hr
  have b1 := acr_bd W s h5 h6 h1 h2
  rw [List.nodup_iff_count]
  intro x
  by_cases hx : x ∈ besideL W H s id
  · rw [beside_once b1.1 hx]; exact Nat.le_refl _
  · rw [List.count_eq_zero_of_not_mem hx]; exact Nat.zero_le _

/-- What the reference finds between two clusters. -/
def btwR (l : List Int) (W H s x y : Int) : List (Cell × Cell) := pick (wantL W H s x y) (refI (opB l W (wantL W H s x y)) (wantL W H s x y).length (wantL W H s x y).length)
theorem btwR_near {l : List Int} {W H s x y : Int} (h : x ≤ y) : btwR l W H s x y = if hasI (besideL W H s x) y = true then btw l W H s x y else [] := by
  unfold btwR wantL btw bords
  rw [show min x y = x by omega, show max x y = y by omega]
  by_cases hn : hasI (besideL W H s x) y = true
  · rw [if_pos hn, if_pos hn]
  · rw [if_neg hn, if_neg hn]; rfl
/-- The reference's gates: of all pairs up to one. -/
def refRow (l : List Int) (W H s : Int) (a m : Nat) : List (Cell × Cell) := (List.range' (a + 1) m).flatMap fun b : Nat => btwR l W H s (a : Int) (b : Int)
def refAll (l : List Int) (W H s : Int) (N n : Nat) : List (Cell × Cell) := (List.range n).flatMap fun a : Nat => refRow l W H s a (N - (a + 1))
theorem flat_congr {α β : Type} {f g : α → List β} : ∀ {l : List α}, (∀ x ∈ l, f x = g x) → l.flatMap f = l.flatMap g
  | [], _ => rfl
  | a :: l, h => by rw [List.flatMap_cons, List.flatMap_cons, h a (by simp), flat_congr (fun x hx => h x (by simp [hx]))]
theorem flat_if {α β : Type} (p : α → Bool) (f : α → List β) : ∀ l : List α, (l.flatMap fun b => if p b = true then f b else []) = (l.filter p).flatMap f
  | [] => rfl
  | a :: l => by
    rw [List.flatMap_cons, flat_if p f l, List.filter_cons]
    by_cases h : p a = true
    · rw [if_pos h, if_pos h, List.flatMap_cons]
    · rw [if_neg h, if_neg h, List.nil_append]
theorem refRow_eq {l : List Int} {W H s : Int} (hr : rightB W H s = true) {N a : Nat} (hN : cnt W H s = (N : Int)) (ha : a < N) : refRow l W H s a (N - (a + 1)) = rowG l W H s (a : Int) := by
  unfold refRow rowG
  have e1 : (List.range' (a + 1) (N - (a + 1))).flatMap (fun b : Nat => btwR l W H s (a : Int) (b : Int)) = ((List.range' (a + 1) (N - (a + 1))).map (fun b : Nat => (b : Int))).flatMap (fun b => if hasI (besideL W H s (a : Int)) b = true then btw l W H s (a : Int) b else []) := by
    rw [List.flatMap_map]
    refine flat_congr (fun b hb => ?_)
    rw [List.mem_range'_1] at hb
    exact btwR_near (by omega)
  rw [e1, flat_if]
  congr 1
  refine ints_unique ?_ ?_ (fun c => ?_)
  · refine List.Pairwise.filter _ ?_
    rw [List.pairwise_map]
    exact List.Pairwise.imp (fun {x y} h => by omega) (List.pairwise_lt_range' (s := a + 1) (n := N - (a + 1)))
  · exact (sortInt_strict (beside_nodup hr)).filter _
  · rw [List.mem_filter, List.mem_filter, (sortInt_perm _).mem_iff, List.mem_map]
    unfold hasI
    simp only [List.contains_iff_mem, decide_eq_true_eq]
    constructor
    · rintro ⟨⟨b, hb, rfl⟩, hm⟩
      rw [List.mem_range'_1] at hb
      exact ⟨hm, by omega⟩
    · rintro ⟨hm, hle⟩
      have hg := beside_rng hr (by omega : 0 ≤ (a : Int)) (by omega) hm
      have hne : c ≠ (a : Int) := by
        rintro rfl
        have hs := beside_self (id := (a : Int)) hr
        unfold hasI at hs
        simp at hs
        exact hs hm
      refine ⟨⟨c.toNat, ?_, by omega⟩, hm⟩
      rw [List.mem_range'_1]
      omega
theorem refAll_eq {l : List Int} {W H s : Int} (hr : rightB W H s = true) {N : Nat} (hN : cnt W H s = (N : Int)) : refAll l W H s N N = ofG l W H s (cnt W H s).toNat := by
  unfold refAll ofG
  rw [show (cnt W H s).toNat = N by omega]
  refine flat_congr (fun a ha => ?_)
  exact refRow_eq hr hN (List.mem_range.1 ha)
end Go.Proofs.Ytkioohhjjdlhiaa
