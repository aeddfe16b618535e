/- Walks of slices.Index and Contains on numbers, and of part's Border. -/
import Derived.Test.YtifbmapianddcaaPartC
import Derived.Deep.DeepCutAuto
namespace Go.Proofs.Ytifbmapianddcaa
open Go.RowKit

theorem Reads.ints {w : World} {b off cap : Nat} {n : Nat} {l : List Int} (h : Reads intE w (.slice (some ⟨b, off, none⟩) n cap) l) : b < w.heap.size ∧ IntsAt w b off l := by
  rcases h with ⟨hv, _⟩ | ⟨b', off', cap', hv, hb, hc⟩
  · simp at hv
  · simp only [Value.slice.injEq, Option.some.injEq, Addr.mk.injEq] at hv
    obtain ⟨⟨rfl, rfl, _⟩, _, _⟩ := hv
    refine ⟨hb, fun k hk => ?_⟩
    have := hc k l[k] (List.getElem?_eq_getElem hk) 0 (.int .i64 l[k]) rfl
    simpa [intE] using this

set_option maxHeartbeats 400000 in
theorem index_row (x : Int) (b off cap : Nat) (l : List Int) (w : World) (hb : b < w.heap.size) (hl : l.length ≤ 1000000) (hcells : IntsAt w b off l) :
    Calls Try.prog 200 #[.slice (some ⟨b, off, none⟩) l.length cap, .int .i64 x] w fun e w' => e = .returned (.int .i64 (fidx (x == ·) l)) ∧ Ext w w' := by
  have HC := hide hcells
  clear hcells
  go_enter Try.func200, Try.ntmps200
  go_wp2
  go_loopw [8] (fun i wr => ∃ k : Nat, k ≤ l.length ∧ i = .int .i64 k ∧ (∀ j (hj : j < k) (hj' : j < l.length), (x == l[j]) = false) ∧ Ext w wr) (fun i _ => l.length - (intOf i).toNat)
  case atStart => exact ⟨0, Nat.zero_le _, rfl, fun j hj => by omega, (by (with_reducible (repeat' (first | exact Ext.refl _ | assumption | refine Ext.drew ?_ | refine Ext.drewN ?_ _ | refine Ext.alloc ?_ _ | refine Ext.setCell ?_ ?_ _ | refine Ext.trans ?_ (by assumption)))); all_goals (first | (simp; done) | (simp; omega)))⟩
  case round =>
    obtain ⟨k, hk, rfl, hall, hext⟩ := hrel
    have HA := hide hall
    clear hall
    have hz := hext.size
    by_cases hlt : k < l.length
    · have dk := (HC.out.ext hb hext) k hlt
      cases hbad : (x == l[k])
      · go_wp2
        go_roundw
        case rel => exact ⟨k + 1, by omega, by go_num, fun j hj hj' => by
                    by_cases e : j = k
                    · subst e; exact hbad
                    · exact HA.out j (by omega) hj', (by (with_reducible (repeat' (first | exact Ext.refl _ | assumption | refine Ext.drew ?_ | refine Ext.drewN ?_ _ | refine Ext.alloc ?_ _ | refine Ext.setCell ?_ ?_ _ | refine Ext.trans ?_ (by assumption)))); all_goals (first | (simp; done) | (simp; omega)))⟩
        case measure => simp [intOf]; omega
      · go_wp2
        go_ret
        exact ⟨by rw [fidx_at hlt (fun j hj => HA.out j hj (by omega)) hbad]; rfl, (by (with_reducible (repeat' (first | exact Ext.refl _ | assumption | refine Ext.drew ?_ | refine Ext.drewN ?_ _ | refine Ext.alloc ?_ _ | refine Ext.setCell ?_ ?_ _ | refine Ext.trans ?_ (by assumption)))); all_goals (first | (simp; done) | (simp; omega)))⟩
    · go_wp2
      go_ret
      exact ⟨by rw [fidx_none (fun j hj => HA.out j (by omega) hj)]; rfl, (by (with_reducible (repeat' (first | exact Ext.refl _ | assumption | refine Ext.drew ?_ | refine Ext.drewN ?_ _ | refine Ext.alloc ?_ _ | refine Ext.setCell ?_ ?_ _ | refine Ext.trans ?_ (by assumption)))); all_goals (first | (simp; done) | (simp; omega)))⟩

theorem index_nil (x : Int) (w : World) :
    Calls Try.prog 200 #[.slice none 0 0, .int .i64 x] w fun e w' => e = .returned (.int .i64 (-1)) ∧ Ext w w' := by
  go_enter Try.func200, Try.ntmps200
  go_wp2
  go_loopw [8] (fun i wr => i = .int .i64 0 ∧ Ext w wr) (fun i _ => 0)
  case atStart => exact ⟨rfl, (by (with_reducible (repeat' (first | exact Ext.refl _ | assumption | refine Ext.drew ?_ | refine Ext.drewN ?_ _ | refine Ext.alloc ?_ _ | refine Ext.setCell ?_ ?_ _ | refine Ext.trans ?_ (by assumption)))); all_goals (first | (simp; done) | (simp; omega)))⟩
  case round =>
    obtain ⟨rfl, hext⟩ := hrel
    go_wp2
    go_ret
    exact ⟨rfl, (by (with_reducible (repeat' (first | exact Ext.refl _ | assumption | refine Ext.drew ?_ | refine Ext.drewN ?_ _ | refine Ext.alloc ?_ _ | refine Ext.setCell ?_ ?_ _ | refine Ext.trans ?_ (by assumption)))); all_goals (first | (simp; done) | (simp; omega)))⟩

theorem index_any (x : Int) (v : Value) (l : List Int) (w : World) (hl : l.length ≤ 1000000) (hr : Reads intE w v l) :
    Calls Try.prog 200 #[v, .int .i64 x] w fun e w' => e = .returned (.int .i64 (fidx (x == ·) l)) ∧ Ext w w' := by
  rcases hr with ⟨rfl, rfl⟩ | ⟨b, off, cap, rfl, hb, hc⟩
  · exact index_nil x w
  · exact index_row x b off cap l w hb hl (Reads.ints (.inr ⟨b, off, cap, rfl, hb, hc⟩)).2

def hasI (l : List Int) (x : Int) : Bool := l.contains x

theorem contains_any (x : Int) (v : Value) (l : List Int) (w : World) (hl : l.length ≤ 1000000) (hr : Reads intE w v l) :
    Calls Try.prog 165 #[v, .int .i64 x] w fun e w' => e = .returned (.bool (hasI l x)) ∧ Ext w w' := by
  have HR := hide hr
  clear hr
  go_enter Try.func165, Try.ntmps165
  go_wp2_with (first | (go_at_call 200; refine (index_any x v l _ hl HR.out).mono ?_; rintro e w1 ⟨rfl, hb1⟩; obtain ⟨hc1, hf1⟩ := hb1.cells; have hz1 := hb1.size; (repeat (first | rw [World.size_alloc] at hz1 | rw [World.size_drew] at hz1))))
  go_ret
  have h0 : ∀ l : List Int, l.contains x = l.any (x == ·) := by
    intro l
    induction l with
    | nil => rfl
    | cons a l ih => rw [List.any_cons, ← ih]; rfl
  have e : decide (0 ≤ fidx (x == ·) l) = hasI l x := by unfold hasI; rw [fidx_ge, h0]
  exact ⟨by rw [← e]; rfl, (by (with_reducible (repeat' (first | exact Ext.refl _ | assumption | refine Ext.drew ?_ | refine Ext.drewN ?_ _ | refine Ext.alloc ?_ _ | refine Ext.setCell ?_ ?_ _ | refine Ext.trans ?_ (by assumption)))); all_goals (first | (simp; done) | (simp; omega)))⟩
end Go.Proofs.Ytifbmapianddcaa
