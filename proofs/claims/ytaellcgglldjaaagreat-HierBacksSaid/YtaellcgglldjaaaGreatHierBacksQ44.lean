/- Part of a proof: HierBa. -/
import Derived.Test.YtaellcgglldjaaaGreatHierBacksQ24
set_option linter.all false
set_option linter.unusedVariables false
set_option linter.unusedSimpArgs false
namespace Go.Proofs.YtaellcgglldjaaaGreat
open Go.RowKit
theorem border_one {W H s lo hi : Int} (hr : rightB W H s = true) (h : Pair W H s lo hi) (d k : Nat) (q : Cell × Cell) (hd : (borderL W H s lo hi)[d]? = some q) (hk : (borderL W H s lo hi)[k]? = some q) : d = k := by
 obtain ⟨_, _, _, _, a⟩ := border_at hr h hd
 obtain ⟨_, _, _, _, b⟩ := border_at hr h hk
 rcases a with ⟨_, _, a, _⟩ | ⟨_, a, _⟩ <;> rcases b with ⟨_, _, b, _⟩ | ⟨_, b, _⟩ <;> rw [a] at b <;> simp only [Prod.mk.injEq] at b <;> omega
theorem bords_lt {W H s a b : Int} (h : a < b) : bords W H s a b = borderL W H s a b := by
 unfold bords
 rw [show min a b = a by omega, show max a b = b by omega]
theorem btw_nodup {l : List Int} {W H s a b : Int} (hr : rightB W H s = true) (hp : Pair W H s a b) (hab : a < b) : (btw l W H s a b).Nodup := by
 unfold btw pick refI
 rw [bords_lt hab]
 refine List.Pairwise.filterMap _ (R := fun i j => i ≠ j) ?_ (List.Pairwise.filter _ List.nodup_range)
 intro i j hij x hx y hy e
 subst e
 exact hij (border_one hr hp i j x hx hy)
theorem btw_in {l : List Int} {W H s a b : Int} (hr : rightB W H s = true) (hp : Pair W H s a b) (hab : a < b) {g : Cell × Cell} (hg : g ∈ btw l W H s a b) : ofN W s g.1.1 g.1.2 = a ∧ ofN W s g.2.1 g.2.2 = b := by
 unfold btw pick at hg
 obtain ⟨j, _, hg⟩ := List.mem_filterMap.1 hg
 rw [bords_lt hab] at hg
 obtain ⟨_, _, c3, c4, _⟩ := border_at hr hp hg
 exact ⟨c3, c4⟩
theorem row_pair {W H s : Int} (hr : rightB W H s = true) {k : Nat} (hk : (k : Int) < cnt W H s) {b : Int} (hb : b ∈ (sortInt (besideL W H s (k : Int))).filter (fun b => decide ((k : Int) ≤ b))) : (k : Int) < b ∧ Pair W H s (k : Int) b := by
 obtain ⟨hb1, hb2⟩ := List.mem_filter.1 hb
 have hb1 := (sortInt_perm _).mem_iff.1 hb1
 have hb2 : (k : Int) ≤ b := of_decide_eq_true hb2
 have hne : b ≠ (k : Int) := by
  rintro rfl
  have h := beside_self (id := (k : Int)) hr
  rw [hasI_iff.2 hb1] at h
  cases h
 have hrg := beside_rng hr (show (0 : Int) ≤ (k : Int) by omega) (by omega) hb1
 exact ⟨by omega, (near_pair hr (show (0 : Int) ≤ (k : Int) by omega) (by omega) hrg.2).1 (hasI_iff.2 hb1)⟩
theorem gates_nodup {W H s : Int} {l : List Int} (hr : rightB W H s = true) : (gatesA W H s l).Nodup := by
 have hrow : ∀ k : Nat, (k : Int) < cnt W H s → (rowG l W H s (k : Int)).Nodup := fun k hk => by
  unfold rowG
  refine List.pairwise_flatMap.2 ⟨fun b hb => ?_, ?_⟩
  ·obtain ⟨h1, h2⟩ := row_pair hr hk hb
   exact btw_nodup hr h2 h1
  ·have hs : ((sortInt (besideL W H s (k : Int))).filter (fun b => decide ((k : Int) ≤ b))).Pairwise (· < ·) := (sortInt_strict (beside_nodup hr)).filter _
   refine List.Pairwise.imp_of_mem (fun {b c} hb hc hbc x hx y hy e => ?_) hs
   obtain ⟨b1, b2⟩ := row_pair hr hk hb
   obtain ⟨c1, c2⟩ := row_pair hr hk hc
   have h1 := (btw_in hr b2 b1 hx).2
   have h2 := (btw_in hr c2 c1 hy).2
   rw [e] at h1
   omega
 have hin : ∀ k : Nat, (k : Int) < cnt W H s → ∀ g ∈ rowG l W H s (k : Int), ofN W s g.1.1 g.1.2 = (k : Int) := fun k hk g hg => by
  unfold rowG at hg
  obtain ⟨b, hb, hg⟩ := List.mem_flatMap.1 hg
  obtain ⟨h1, h2⟩ := row_pair hr hk hb
  exact (btw_in hr h2 h1 hg).1
 unfold gatesA ofG
 refine List.pairwise_flatMap.2 ⟨fun k hk => hrow k (by have := List.mem_range.1 hk; omega), ?_⟩
 refine List.Pairwise.imp_of_mem (fun {b c} hb hc hbc x hx y hy e => ?_) List.pairwise_lt_range
 have hb := List.mem_range.1 hb
 have hc := List.mem_range.1 hc
 have h1 := hin b (by omega) x hx
 have h2 := hin c (by omega) y hy
 rw [e] at h1
 omega
theorem count_one {α : Type} [DecidableEq α] {a : α} : ∀ {l : List α}, l.Nodup → a ∈ l → l.countP (fun c => decide (c = a)) = 1
 | [], _, h => by cases h
 | b :: l, hn, h => by
  obtain ⟨n1, n2⟩ := List.nodup_cons.1 hn
  rw [List.countP_cons]
  by_cases e : b = a
  ·subst e
   have : l.countP (fun c => decide (c = b)) = 0 := by
    rw [List.countP_eq_zero]
    intro c hc
    simp only [decide_eq_true_eq]
    rintro rfl
    exact n1 hc
   rw [this]
   simp
  ·rw [count_one n2 ((List.mem_cons.1 h).resolve_left fun k => e k.symm)]
   simp [e]
section
variable {W H s : Int} {l : List Int}
theorem dist_as (g : Good W H s l) {a : Cell} (ha : inB W H a.1 a.2 = true) {id : Int} (h : ofN W s a.1 a.2 = id) : ∃ L : boxL W H s id l, ∀ c, distB W H s l a c = farD L a (idxN W c) := by
 subst h
 exact dist_is g ha
theorem dist_back (g : Good W H s l) (hl : l.length ≤ 150) {a c : Cell} (ha : inB W H a.1 a.2 = true) (hc : inB W H c.1 c.2 = true) (e : ofN W s c.1 c.2 = ofN W s a.1 a.2) (hd : distB W H s l a c ≠ infI) :
  distB W H s l c a ≠ infI ∧ distB W H s l c a + costI l W c = distB W H s l a c + costI l W a := by
 obtain ⟨L, h1⟩ := dist_as g ha rfl
 obtain ⟨L', h2⟩ := dist_as g hc e
 rw [h1] at hd ⊢
 rw [h2]
 have F := farD_is L a
 have K := farD_is L c
 have hlt : farD L a (idxN W c) < infI := by have := F.le (idxN W c); omega
 have hn : (mapNet L).n ≤ 1000000 := by rw [net_top L]; omega
 have b1 := F.backs hn K (far_low F) hlt
 have e1 : (mapNet L).cost (idxN W c) = costI l W c := rfl
 have e2 : (mapNet L).cost (idxN W a) = costI l W a := rfl
 rw [e1, e2] at b1
 have hw := far_low F _ hlt
 rw [net_top L] at hw
 have q1 := costI_bd g.u16 W a
 have q2 := costI_bd g.u16 W c
 have hlt2 : farD L c (idxN W a) < infI := by show _ < (18446744073709551615 : Int); omega
 have b2 := K.backs hn F (far_low K) hlt2
 rw [e1, e2] at b2
 exact ⟨by show farD L c (idxN W a) ≠ infI; omega, by show farD L c (idxN W a) + _ = _; omega⟩
theorem legsG_ne (hr : rightB W H s = true) {a : Cell} {p : Cell × Int} (h : p ∈ legsG W l (gatesA W H s l) a) : ofN W s p.1.1 p.1.2 ≠ ofN W s a.1 a.2 := by
 unfold legsG at h
 obtain ⟨e, he, hp⟩ := List.mem_flatMap.1 h
 obtain ⟨x, y, x0, xy, yb, _, i1, i2, o1, o2, _⟩ := gate_in hr he
 rcases legG_mem hp with ⟨rfl, rfl⟩ | ⟨rfl, rfl⟩ <;> simp only <;> omega
theorem legsIn_eq {N : List Cell} {a : Cell} {p : Cell × Int} (h : p ∈ legsIn W H s l N a) : ofN W s p.1.1 p.1.2 = ofN W s a.1 a.2 := by
 unfold legsIn at h
 obtain ⟨c, hc, rfl⟩ := List.mem_map.1 h
 rw [List.mem_filter] at hc
 simp only [Bool.and_eq_true, decide_eq_true_eq] at hc
 exact hc.2.1
theorem legsG_count {a b : Cell} {g0 : Cell × Cell} (hne : b ≠ a) (h0 : g0 = (a, b) ∨ g0 = (b, a)) (hord : ofN W s g0.1.1 g0.1.2 < ofN W s g0.2.1 g0.2.2) : ∀ G : List (Cell × Cell), (∀ g ∈ G, ofN W s g.1.1 g.1.2 < ofN W s g.2.1 g.2.2) → (legsG W l G b).countP (fun p => decide (p.1 = a)) = G.countP (fun g => decide (g = g0))
 | [], _ => rfl
 | g :: G, h => by
  have ih := legsG_count hne h0 hord G (fun x hx => h x (List.mem_cons_of_mem _ hx))
  have hg := h g List.mem_cons_self
  unfold legsG at ih ⊢
  rw [List.flatMap_cons, List.countP_append, ih, List.countP_cons, Nat.add_comm]
  congr 1
  unfold legG
  obtain ⟨g1, g2⟩ := g
  simp only at hg ⊢
  rcases h0 with rfl | rfl
  ·simp only at hord
   by_cases e1 : g1 = b
   ·rw [if_pos e1]
    have : ¬ g2 = a := fun k => by rw [e1, k] at hg; omega
    have k2 : ¬ g1 = a := fun k => hne (e1.symm.trans k)
    simp [this, k2]
   ·rw [if_neg e1]
    by_cases e2 : g2 = b
    ·rw [if_pos e2]; simp [e2]
    ·rw [if_neg e2]; simp [e2]
  ·simp only at hord
   by_cases e1 : g1 = b
   ·rw [if_pos e1]; simp [e1]
   ·rw [if_neg e1]
    by_cases e2 : g2 = b
    ·rw [if_pos e2]
     have : ¬ g1 = a := fun k => by rw [k, e2] at hg; omega
     simp [e1, this]
    ·rw [if_neg e2]; simp [e1]
theorem back_one (g : Good W H s l) (hl : l.length ≤ 150) {f t a : Cell} (ha : a ∈ nodesL W H (gatesA W H s l) f t) {q : Cell × Int} (hq : q ∈ legsL W H s l (gatesA W H s l) f t a) :
  (∀ p ∈ legsL W H s l (gatesA W H s l) f t q.1, p.1 = a → p.2 + costI l W q.1 = q.2 + costI l W a) ∧ (legsL W H s l (gatesA W H s l) f t q.1).countP (fun p => decide (p.1 = a)) = 1 := by
 have hai := node_in g ha
 obtain ⟨h1, h2, h3, h4, h5⟩ := leg_ok g hl hai hq
 have hqi := node_in g h1
 have hG : ∀ e ∈ gatesA W H s l, ofN W s e.1.1 e.1.2 < ofN W s e.2.1 e.2.2 := fun e he => by
  obtain ⟨x, y, x0, xy, yb, _, i1, i2, o1, o2, _⟩ := gate_in g.right he
  omega
 rcases h5 with ⟨e, hd, hinf⟩ | ⟨e, hd⟩
 ·obtain ⟨b1, b2⟩ := dist_back g hl hai hqi e hinf
  refine ⟨fun p hp hpa => ?_, ?_⟩
  ·obtain ⟨_, _, _, _, k5⟩ := leg_ok g hl hqi hp
   rw [hpa] at k5
   rcases k5 with ⟨_, k6, _⟩ | ⟨k6, _⟩
   ·rw [k6, b2, hd]
   ·exact absurd e.symm k6
  ·unfold legsL
   rw [List.countP_append]
   have z : (legsG W l (gatesA W H s l) q.1).countP (fun p => decide (p.1 = a)) = 0 := by
    rw [List.countP_eq_zero]
    intro p hp hpa
    have := legsG_ne g.right hp
    rw [of_decide_eq_true hpa] at this
    exact this e.symm
   rw [z]
   unfold legsIn
   rw [List.countP_map]
   refine count_one (l := (nodesL W H (gatesA W H s l) f t).filter _) ((strict_nodup (nodesL_strict _ _ _ _ _)).filter _) ?_
   rw [List.mem_filter]
   simp only [Bool.and_eq_true, decide_eq_true_eq, Bool.not_eq_true', decide_eq_false_iff_not]
   exact ⟨ha, e.symm, fun k => h2 k.symm, b1⟩
 ·refine ⟨fun p hp hpa => ?_, ?_⟩
  ·obtain ⟨_, _, _, _, k5⟩ := leg_ok g hl hqi hp
   rw [hpa] at k5
   rcases k5 with ⟨k6, _⟩ | ⟨_, k6⟩
   ·exact absurd k6.symm e
   ·rw [k6, hd]; omega
  ·unfold legsL
   rw [List.countP_append]
   have z : (legsIn W H s l (nodesL W H (gatesA W H s l) f t) q.1).countP (fun p => decide (p.1 = a)) = 0 := by
    rw [List.countP_eq_zero]
    intro p hp hpa
    have := legsIn_eq hp
    rw [of_decide_eq_true hpa] at this
    exact e this.symm
   rw [z, Nat.zero_add]
   have hqG : q ∈ legsG W l (gatesA W H s l) a := by
    rcases List.mem_append.1 (show q ∈ legsIn W H s l (nodesL W H (gatesA W H s l) f t) a ++ legsG W l (gatesA W H s l) a from hq) with k | k
    ·exact absurd (legsIn_eq k) e
    ·exact k
   obtain ⟨g0, hg0, hqg⟩ := List.mem_flatMap.1 (show q ∈ (gatesA W H s l).flatMap (legG W l a) from hqG)
   have h0 : g0 = (a, q.1) ∨ g0 = (q.1, a) := by
    rcases legG_mem hqg with ⟨k1, k2⟩ | ⟨k1, k2⟩
    ·left; rw [k2, ← k1]
    ·right; rw [k2, ← k1]
   rw [legsG_count h2 h0 (hG g0 hg0) _ hG]
   exact count_one (gates_nodup g.right) hg0
end
end Go.Proofs.YtaellcgglldjaaaGreat

