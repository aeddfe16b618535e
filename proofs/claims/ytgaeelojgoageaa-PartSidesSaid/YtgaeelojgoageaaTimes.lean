/- The walk of times: how often a number is in a list. -/
import Derived.Test.YtgaeelojgoageaaRefB
namespace Go.Proofs.Ytgaeelojgoageaa
open Go.RowKit

theorem count_take_succ (l : List Int) (x : Int) (k : Nat) (h : k < l.length) : (l.take (k + 1)).count x = (l.take k).count x + if (l[k] == x) = true then 1 else 0 := by
  rw [List.take_succ_eq_append_getElem h, List.count_append, List.count_cons, List.count_nil]
  simp

set_option maxHeartbeats 400000 in
theorem times_row (x : Int) (b off cap : Nat) (l : List Int) (w : World) (hb : b < w.heap.size) (hl : l.length ≤ 1000000) (hcells : IntsAt w b off l) :
    Calls Try.prog 36 #[.slice (some ⟨b, off, none⟩) l.length cap, .int .i64 x] w fun e w' => e = .returned (.int .i64 (l.count x : Nat)) ∧ Ext w w' := by
  have HC := hide hcells
  clear hcells
  go_enter Try.func36, Try.ntmps36
  go_wp2
  go_loopw [5, 6] (fun n i wr => ∃ k : Nat, k ≤ l.length ∧ i = .int .i64 k ∧ n = .int .i64 ((l.take k).count x : Nat) ∧ Ext w wr) (fun _ i _ => l.length - (intOf i).toNat)
  case atStart => exact ⟨0, Nat.zero_le _, rfl, by simp, (by (with_reducible (repeat' (first | exact Ext.refl _ | assumption | refine Ext.drew ?_ | refine Ext.drewN ?_ _ | refine Ext.alloc ?_ _ | refine Ext.setCell ?_ ?_ _ | refine Ext.trans ?_ (by assumption)))); all_goals (first | (simp; done) | (simp; omega)))⟩
  case round =>
    obtain ⟨k, hk, rfl, rfl, hext⟩ := hrel
    have hz := hext.size
    have hcl : (l.take k).count x ≤ k := Nat.le_trans List.count_le_length (List.length_take_le _ _)
    by_cases hlt : k < l.length
    · have dk := (HC.out.ext hb hext) k hlt
      have HT := hide (count_take_succ l x k hlt)
      cases hbad : (l[k] == x)
      all_goals
        go_wp2
        go_roundw
        case rel => exact ⟨k + 1, by omega, by go_num, by rw [HT.out, hbad]; simp, (by (with_reducible (repeat' (first | exact Ext.refl _ | assumption | refine Ext.drew ?_ | refine Ext.drewN ?_ _ | refine Ext.alloc ?_ _ | refine Ext.setCell ?_ ?_ _ | refine Ext.trans ?_ (by assumption)))); all_goals (first | (simp; done) | (simp; omega)))⟩
        case measure => simp [intOf]; omega
    · obtain rfl : k = l.length := by omega
      go_wp2
      go_ret
      exact ⟨by simp, (by (with_reducible (repeat' (first | exact Ext.refl _ | assumption | refine Ext.drew ?_ | refine Ext.drewN ?_ _ | refine Ext.alloc ?_ _ | refine Ext.setCell ?_ ?_ _ | refine Ext.trans ?_ (by assumption)))); all_goals (first | (simp; done) | (simp; omega)))⟩

theorem times_any (x : Int) (v : Value) (l : List Int) (w : World) (hl : l.length ≤ 1000000) (h0 : 0 < l.length) (hr : Reads intE w v l) :
    Calls Try.prog 36 #[v, .int .i64 x] w fun e w' => e = .returned (.int .i64 (l.count x : Nat)) ∧ Ext w w' := by
  rcases hr with ⟨rfl, rfl⟩ | ⟨b, off, cap, rfl, hb, hc⟩
  · simp at h0
  · exact times_row x b off cap l w hb hl (Reads.ints (.inr ⟨b, off, cap, rfl, hb, hc⟩)).2
end Go.Proofs.Ytgaeelojgoageaa
