/- The walk of the reference's Of: the cluster of a cell, looked for. -/
import Derived.Test.YtgaeelojgoageaaRefC
import Derived.Test.YtgaeelojgoageaaRefB
namespace Go.Proofs.Ytgaeelojgoageaa
open Go.RowKit

def gidx {α : Type} (p : α → Bool) (l : List α) : Int := match l.findIdx? p with
  | some i => i
  | none => -1
theorem gidx_at {α : Type} {p : α → Bool} {l : List α} {k : Nat} (hk : k < l.length) (h : ∀ j (hj : j < k), p (l[j]'(by omega)) = false) (hp : p l[k] = true) : gidx p l = k := by
  have : l.findIdx? p = some k := by
    rw [List.findIdx?_eq_some_iff_getElem]
    exact ⟨hk, hp, fun j hj => by simpa using h j hj⟩
  simp [gidx, this]
theorem gidx_none {α : Type} {p : α → Bool} {l : List α} (h : ∀ j (hj : j < l.length), p l[j] = false) : gidx p l = -1 := by
  have : l.findIdx? p = none := by
    rw [List.findIdx?_eq_none_iff]
    intro x hx
    obtain ⟨j, hj, rfl⟩ := List.getElem_of_mem hx
    exact h j hj
  simp [gidx, this]

theorem Own.pos {α : Type} {E : Enc α} {w : World} {base : Nat} {e : TypeId} {v : Value} {l : List α} (h : Own E w base e v l) (hl : 0 < l.length) : ∃ g c, v = .slice (some ⟨g, 0, none⟩) l.length c ∧ base ≤ g ∧ g < w.heap.size := by
  rcases h.2 with ⟨_, hn⟩ | ⟨g, cap, cur, hv, hb, hg, _⟩
  · omega
  · exact ⟨g, cap, hv, hb, lt_of_block hg⟩
theorem Reads.pair_at {w : World} {g n c : Nat} {l : List (Cell × Cell)} (h : Reads pairE w (.slice (some ⟨g, 0, none⟩) n c) l) {k : Nat} {p : Cell × Cell} (hk : l[k]? = some p) :
    w.cell? ⟨g, k * 4, none⟩ = some (.int .i64 p.1.1) ∧ w.cell? ⟨g, k * 4 + 1, none⟩ = some (.int .i64 p.1.2) ∧ w.cell? ⟨g, k * 4 + 2, none⟩ = some (.int .i64 p.2.1) ∧ w.cell? ⟨g, k * 4 + 3, none⟩ = some (.int .i64 p.2.2) := by
  have hlt := (List.getElem?_eq_some_iff.1 hk).1
  have := h.pairs.2 k hlt
  rw [List.getElem?_eq_getElem hlt] at hk
  have hk' := Option.some.inj hk
  rw [hk'] at this
  simpa using this

def hasP (x y : Int) (b : Cell × Cell) : Bool := hasB b.1.1 b.1.2 b.2.1 b.2.2 x y
def fOf (l : List (Cell × Cell)) (x y : Int) : Int := gidx (hasP x y) l

def NonNeg (l : List (Cell × Cell)) : Prop := ∀ k (h : k < l.length), 0 ≤ l[k].1.1 ∧ 0 ≤ l[k].1.2

theorem PairsAt.below {w w' : World} {b off : Nat} {l : List (Cell × Cell)} (h : PairsAt w b off l) {B : Nat} (hb : b < B) (he : Below B w w') : PairsAt w' b off l :=
  fun k hk => ⟨(he.cell (p := ⟨b, _, none⟩) hb).trans (h k hk).1, (he.cell (p := ⟨b, _, none⟩) hb).trans (h k hk).2.1, (he.cell (p := ⟨b, _, none⟩) hb).trans (h k hk).2.2.1, (he.cell (p := ⟨b, _, none⟩) hb).trans (h k hk).2.2.2⟩

set_option maxHeartbeats 1000000 in
theorem rOf_row (b off c : Nat) (l : List (Cell × Cell)) (x y : Int) (w : World) (hl : l.length ≤ 1000000) (hb : b < w.heap.size) (h1 : PairsAt w b off l) (hn : NonNeg l) (hx : InI x) (hy : InI y) :
    Calls Try.prog 28 #[.slice (some ⟨b, off, none⟩) l.length c, .agg #[.int .i64 x, .int .i64 y]] w fun e w' => e = .returned (.int .i64 (fOf l x y)) ∧ Ext w w' := by
  have H1 := hide h1
  have HN := hide hn
  have HX := hide hx
  have HY := hide hy
  clear h1 hn hx hy
  go_enter Try.func28, Try.ntmps28
  go_wp2
  obtain ⟨w0, hw0⟩ : ∃ w0, w0 = w.alloc (.cells #[.int .i64 x, .int .i64 y] 44) := ⟨_, rfl⟩
  have hx0 : Ext w w0 := by rw [hw0]; exact (by (with_reducible (repeat' (first | exact Ext.refl _ | assumption | refine Ext.drew ?_ | refine Ext.drewN ?_ _ | refine Ext.alloc ?_ _ | refine Ext.setCell ?_ ?_ _ | refine Ext.trans ?_ (by assumption)))); all_goals (first | (simp; done) | (simp; omega)))
  have c0 : w0.cell? ⟨w.heap.size, 0, none⟩ = some (.int .i64 x) := by rw [hw0]; simp [go_sem]
  have c1 : w0.cell? ⟨w.heap.size, 1, none⟩ = some (.int .i64 y) := by rw [hw0]; simp [go_sem]
  have z0 : w.heap.size < w0.heap.size := by rw [hw0]; simp
  rw [← hw0]
  clear hw0
  go_loopw [5] (fun i wr => ∃ k : Nat, k ≤ l.length ∧ i = .int .i64 k ∧ (∀ j (hj : j < k) (hj' : j < l.length), hasP x y l[j] = false) ∧ Ext w0 wr) (fun i _ => l.length - (intOf i).toNat)
  case atStart => exact ⟨0, Nat.zero_le _, rfl, fun j hj => by omega, Ext.refl _⟩
  case round =>
    obtain ⟨k, hk, rfl, hall, hext⟩ := hrel
    have HA := hide hall
    clear hall
    have e0 := (hext.cell (p := ⟨w.heap.size, 0, none⟩) z0).trans c0
    have e1 := (hext.cell (p := ⟨w.heap.size, 1, none⟩) z0).trans c1
    have hz := hext.size
    have zb : b < wr.heap.size := by omega
    have zw : w.heap.size < wr.heap.size := by omega
    by_cases hlt : k < l.length
    · obtain ⟨d1, d2, d3, d4⟩ := ((H1.out.ext hb hx0).ext (by omega) hext) k hlt
      obtain ⟨n1, n2⟩ := HN.out k hlt
      cases hh : hasB l[k].1.1 l[k].1.2 l[k].2.1 l[k].2.2 x y
      all_goals
        go_wp2
        go_region_held3 (fun W => (∀ b o, b < wr.heap.size → W.cell? ⟨b, o, none⟩ = wr.cell? ⟨b, o, none⟩) ∧ Ext wr W) (first | with_reducible exact pr_start _ | exact pr_of (by (with_reducible (repeat' (first | exact Ext.refl _ | assumption | refine Ext.drew ?_ | refine Ext.drewN ?_ _ | refine Ext.alloc ?_ _ | refine Ext.setCell ?_ ?_ _ | refine Ext.trans ?_ (by assumption)))); all_goals (first | (simp; done) | (simp; omega))))
          (first | (go_at_call 34; refine (rHas_any l[k].1.1 l[k].1.2 l[k].2.1 l[k].2.2 x y _ n1 n2 HX.out HY.out).mono ?_; rintro e w1 ⟨rfl, hb1⟩))
      · go_wp2
        go_roundw
        case rel => exact ⟨k + 1, by omega, by go_num, fun j hj hj' => by
                    by_cases e : j = k
                    · subst e; exact hh
                    · exact HA.out j (by omega) hj', (by (with_reducible (repeat' (first | exact Ext.refl _ | assumption | refine Ext.drew ?_ | refine Ext.drewN ?_ _ | refine Ext.alloc ?_ _ | refine Ext.setCell ?_ ?_ _ | refine Ext.trans ?_ (by assumption)))); all_goals (first | (simp; done) | (simp; omega)))⟩
        case measure => simp [intOf]; omega
      · go_wp2
        go_ret
        exact ⟨by unfold fOf; rw [gidx_at hlt (fun j hj => HA.out j hj (by omega)) hh]; rfl, (by (with_reducible (repeat' (first | exact Ext.refl _ | assumption | refine Ext.drew ?_ | refine Ext.drewN ?_ _ | refine Ext.alloc ?_ _ | refine Ext.setCell ?_ ?_ _ | refine Ext.trans ?_ (by assumption)))); all_goals (first | (simp; done) | (simp; omega)))⟩
    · go_wp2
      go_ret
      exact ⟨by unfold fOf; rw [gidx_none (fun j hj => HA.out j (by omega) hj)]; rfl, (by (with_reducible (repeat' (first | exact Ext.refl _ | assumption | refine Ext.drew ?_ | refine Ext.drewN ?_ _ | refine Ext.alloc ?_ _ | refine Ext.setCell ?_ ?_ _ | refine Ext.trans ?_ (by assumption)))); all_goals (first | (simp; done) | (simp; omega)))⟩

theorem rOf_any (v : Value) (l : List (Cell × Cell)) (x y : Int) (w : World) (hl : l.length ≤ 1000000) (h0 : 0 < l.length) (hr : Reads pairE w v l) (hn : NonNeg l) (hx : InI x) (hy : InI y) :
    Calls Try.prog 28 #[v, .agg #[.int .i64 x, .int .i64 y]] w fun e w' => e = .returned (.int .i64 (fOf l x y)) ∧ Ext w w' := by
  rcases hr with ⟨rfl, rfl⟩ | ⟨b, off, c, rfl, hb1, hc⟩
  · simp at h0
  · have i1 := (Reads.pairs (.inr ⟨b, off, c, rfl, hb1, hc⟩ : Reads pairE w (.slice (some ⟨b, off, none⟩) l.length c) l)).2
    exact rOf_row b off c l x y w hl hb1 i1 hn hx hy
end Go.Proofs.Ytgaeelojgoageaa
