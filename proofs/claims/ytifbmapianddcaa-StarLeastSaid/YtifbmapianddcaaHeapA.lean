/- Walks of the heap's order: Less and ahead. -/
import Derived.Test.YtifbmapianddcaaFarP
import Derived.Test.YtifbmapianddcaaMapG
import Derived.Test.YtifbmapianddcaaPartB
set_option linter.all false
set_option linter.unusedVariables false
set_option linter.unusedSimpArgs false
namespace Go.Proofs.Ytifbmapianddcaa
open Go.RowKit

def keyV (k : HKey) : Value := .agg #[.int .u64 k.1.1, .int .u64 k.1.2, .int .i64 k.2.1, .int .i64 k.2.2]
def thingV (t : Thing) : Value := .agg #[.int .i64 t.1, .int .u64 t.2.1.1, .int .u64 t.2.1.2, .int .i64 t.2.2.1, .int .i64 t.2.2.2]

theorem hLess_any (a b : HKey) (w : World) : Calls Try.prog 156 #[keyV a, keyV b] w fun e w' => e = .returned (.bool (lessB a b)) ∧ Ext w w' := by
  obtain ⟨⟨f, h⟩, y, x⟩ := a
  obtain ⟨⟨f', h'⟩, y', x'⟩ := b
  unfold keyV
  simp only
  by_cases e1 : f = f'
  · have q1 : (f != f') = false := by simpa using e1
    by_cases e2 : h = h'
    · have q2 : (h != h') = false := by simpa using e2
      by_cases e3 : y = y'
      · have q3 : (y != y') = false := by simpa using e3
        have e : lessB ((f, h), (y, x)) ((f', h'), (y', x')) = decide (x < x') := by simp [lessB, e1, e2, e3]
        rw [e]
        clear e e1 e2 e3
        go_enter Try.func156, Try.ntmps156
        go_wp2
        go_ret
        exact ⟨rfl, (by (with_reducible (repeat' (first | exact Ext.refl _ | assumption | refine Ext.drew ?_ | refine Ext.drewN ?_ _ | refine Ext.alloc ?_ _ | refine Ext.setCell ?_ ?_ _ | refine Ext.trans ?_ (by assumption)))); all_goals (first | (simp; done) | (simp; omega)))⟩
      · have q3 : (y != y') = true := by simpa using e3
        have e : lessB ((f, h), (y, x)) ((f', h'), (y', x')) = decide (y < y') := by simp [lessB, e1, e2, e3]
        rw [e]
        clear e e1 e2 e3
        go_enter Try.func156, Try.ntmps156
        go_wp2
        go_ret
        exact ⟨rfl, (by (with_reducible (repeat' (first | exact Ext.refl _ | assumption | refine Ext.drew ?_ | refine Ext.drewN ?_ _ | refine Ext.alloc ?_ _ | refine Ext.setCell ?_ ?_ _ | refine Ext.trans ?_ (by assumption)))); all_goals (first | (simp; done) | (simp; omega)))⟩
    · have q2 : (h != h') = true := by simpa using e2
      have e : lessB ((f, h), (y, x)) ((f', h'), (y', x')) = decide (h < h') := by simp [lessB, e1, e2]
      rw [e]
      clear e e1 e2
      go_enter Try.func156, Try.ntmps156
      go_wp2
      go_ret
      exact ⟨rfl, (by (with_reducible (repeat' (first | exact Ext.refl _ | assumption | refine Ext.drew ?_ | refine Ext.drewN ?_ _ | refine Ext.alloc ?_ _ | refine Ext.setCell ?_ ?_ _ | refine Ext.trans ?_ (by assumption)))); all_goals (first | (simp; done) | (simp; omega)))⟩
  · have q1 : (f != f') = true := by simpa using e1
    have e : lessB ((f, h), (y, x)) ((f', h'), (y', x')) = decide (f < f') := by simp [lessB, e1]
    rw [e]
    clear e e1
    go_enter Try.func156, Try.ntmps156
    go_wp2
    go_ret
    exact ⟨rfl, (by (with_reducible (repeat' (first | exact Ext.refl _ | assumption | refine Ext.drew ?_ | refine Ext.drewN ?_ _ | refine Ext.alloc ?_ _ | refine Ext.setCell ?_ ?_ _ | refine Ext.trans ?_ (by assumption)))); all_goals (first | (simp; done) | (simp; omega)))⟩

theorem eq_key (a b : HKey) (w : World) : (Op.equalIn 10000 185 (keyV a) (keyV b)).run Try.prog w = .ok (decide (a = b)) w := by
  have u : Try.prog.underlying 185 = some (.struct (Try.prog.fieldsOf 185)) := by kernel_rfl
  have s : Try.prog.stoodInHeld 185 = false := by kernel_rfl
  obtain ⟨⟨f, h⟩, y, x⟩ := a
  obtain ⟨⟨f', h'⟩, y', x'⟩ := b
  have e : decide (((f, h), (y, x)) = ((f', h'), (y', x'))) = (f == f' && (h == h' && (y == y' && x == x'))) := by
    rw [Bool.eq_iff_iff]; simp [and_assoc]
  rw [e]
  unfold keyV
  rw [run_equalIn_struct w 9999 185 _ _ u s]
  cases h1 : f == f' <;> cases h2 : h == h' <;> cases h3 : y == y' <;> cases h4 : x == x' <;> simp [go_sem, h1, h2, h3, h4]
end Go.Proofs.Ytifbmapianddcaa
