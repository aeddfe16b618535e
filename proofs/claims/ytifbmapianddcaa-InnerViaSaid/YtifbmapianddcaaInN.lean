/- The law's own small function of chapter 13. -/
import Derived.Test.YtifbmapianddcaaInM
set_option linter.all false
set_option linter.unusedVariables false
set_option linter.unusedSimpArgs false
namespace Go.Proofs.Ytifbmapianddcaa
open Go.RowKit

theorem small13_any (W H : Int) (a : Option Addr) (n c : Nat) (id : Int) (ca : Option Addr) (m cc : Nat) (tx ty : Int) (w : World) :
    Calls Try.prog 23 #[.agg #[.int .i64 W, .int .i64 H, .slice a n c], .agg #[.int .i64 id, .slice ca m cc, .int .i64 tx, .int .i64 ty]] w fun e w' => e = .returned (.bool (decide (n ≤ 260) && decide (m ≤ 60))) ∧ Ext w w' := by
  by_cases h1 : n ≤ 260
  · have d1 : decide ((n : Int) ≤ 260) = true := by simp; omega
    have e1 : decide (n ≤ 260) = true := by simpa using h1
    by_cases h2 : m ≤ 60
    · have d2 : decide ((m : Int) ≤ 60) = true := by simp; omega
      have e2 : decide (m ≤ 60) = true := by simpa using h2
      rw [e1, e2]
      go_enter Try.func23, Try.ntmps23
      go_wp2_with fail
      go_ret
      exact ⟨rfl, (by (with_reducible (repeat' (first | exact Ext.refl _ | assumption | refine Ext.drew ?_ | refine Ext.drewN ?_ _ | refine Ext.alloc ?_ _ | refine Ext.setCell ?_ ?_ _ | refine Ext.trans ?_ (by assumption)))); all_goals (first | (simp; done) | (simp; omega)))⟩
    · have d2 : decide ((m : Int) ≤ 60) = false := by simp; omega
      have e2 : decide (m ≤ 60) = false := by simpa using h2
      rw [e1, e2]
      go_enter Try.func23, Try.ntmps23
      go_wp2_with fail
      go_ret
      exact ⟨rfl, (by (with_reducible (repeat' (first | exact Ext.refl _ | assumption | refine Ext.drew ?_ | refine Ext.drewN ?_ _ | refine Ext.alloc ?_ _ | refine Ext.setCell ?_ ?_ _ | refine Ext.trans ?_ (by assumption)))); all_goals (first | (simp; done) | (simp; omega)))⟩
  · have d1 : decide ((n : Int) ≤ 260) = false := by simp; omega
    have e1 : decide (n ≤ 260) = false := by simpa using h1
    rw [e1]
    clear h1
    go_enter Try.func23, Try.ntmps23
    go_wp2_with fail
    go_ret
    exact ⟨rfl, (by (with_reducible (repeat' (first | exact Ext.refl _ | assumption | refine Ext.drew ?_ | refine Ext.drewN ?_ _ | refine Ext.alloc ?_ _ | refine Ext.setCell ?_ ?_ _ | refine Ext.trans ?_ (by assumption)))); all_goals (first | (simp; done) | (simp; omega)))⟩
end Go.Proofs.Ytifbmapianddcaa
