/- What a nil desk tells; two pairs beside one another. -/
import Derived.Test.YtifbmapianddcaaTokE
set_option linter.all false
set_option linter.unusedVariables false
set_option linter.unusedSimpArgs false
namespace Go.Proofs.Ytifbmapianddcaa
open Go.RowKit

theorem nOpen (w : World) : Calls Try.prog 42 #[.pointer none] w fun e w' => e = .returned (.tuple #[.int .u64 0, .int .i64 2]) ∧ w = w' := by
  go_enter Try.func42, Try.ntmps42
  go_wp2
  go_ret2
  exact ⟨rfl, rfl⟩
theorem nDraw (x : Int) (w : World) : Calls Try.prog 40 #[.pointer none, .int .u64 x] w fun e w' => e = .returned (.int .i64 2) ∧ w = w' := by
  go_enter Try.func40, Try.ntmps40
  go_wp2
  go_ret
  exact ⟨rfl, rfl⟩
theorem nClose (x : Int) (w : World) : Calls Try.prog 44 #[.pointer none, .int .u64 x] w fun e w' => e = .returned (.int .i64 2) ∧ w = w' := by
  go_enter Try.func44, Try.ntmps44
  go_wp2
  go_ret
  exact ⟨rfl, rfl⟩
theorem nHas (x : Int) (w : World) : Calls Try.prog 46 #[.pointer none, .int .u64 x] w fun e w' => e = .returned (.bool false) ∧ w = w' := by
  go_enter Try.func46, Try.ntmps46
  go_wp2
  go_ret
  exact ⟨rfl, rfl⟩
theorem nCount (w : World) : Calls Try.prog 48 #[.pointer none] w fun e w' => e = .returned (.int .i64 0) ∧ w = w' := by
  go_enter Try.func48, Try.ntmps48
  go_wp2
  go_ret
  exact ⟨rfl, rfl⟩
theorem nLeft (w : World) : Calls Try.prog 49 #[.pointer none] w fun e w' => e = .returned (.int .i64 0) ∧ w = w' := by
  go_enter Try.func49, Try.ntmps49
  go_wp2
  go_ret
  exact ⟨rfl, rfl⟩
theorem nTokens (w : World) : Calls Try.prog 51 #[.pointer none] w fun e w' => e = .returned (.slice none 0 0) ∧ Ext w w' := by
  go_enter Try.func51, Try.ntmps51
  go_wp2
  go_ret
  exact ⟨rfl, (by (with_reducible (repeat' (first | exact Ext.refl _ | assumption | refine Ext.drew ?_ | refine Ext.drewN ?_ _ | refine Ext.alloc ?_ _ | refine Ext.setCell ?_ ?_ _ | refine Ext.trans ?_ (by assumption)))); all_goals (first | (simp; done) | (simp; omega)))⟩
theorem nClone (w : World) : Calls Try.prog 52 #[.pointer none] w fun e w' => e = .returned (.pointer none) ∧ w = w' := by
  go_enter Try.func52, Try.ntmps52
  go_wp2
  go_ret
  exact ⟨rfl, rfl⟩

/-- Two pairs, apart from each other. -/
def Two (b : Nat) (w0 w : World) (d n e d2 d' n' e' d2' : Nat) (most : Int) (m : Nat) (row ever now : List Int) : Prop :=
  ∃ F, Pair w d n e d2 most row ever now row ever now F ∧ ∃ row' ever' now' F', Pair w d' n' e' d2' most row' ever' now' row' ever' now' F' ∧ Fair m most row' ever' now' ∧ (∀ k, F k → ¬ F' k) ∧ Below b w0 w ∧ b ≤ w.heap.size ∧ (∀ k, F k → b ≤ k) ∧ (∀ k, F' k → b ≤ k)

theorem Two.step {b : Nat} {w0 w w' : World} {d n e d2 d' n' e' d2' : Nat} {most : Int} {m : Nat} {row ever now row' ever' now' : List Int} {F F' : Nat → Prop}
    (P : Pair w d n e d2 most row ever now row ever now F) (hb : b ≤ w.heap.size) (hB : Below b w0 w) (ha : ∀ k, F k → ¬ F' k) (hF : ∀ k, F k → b ≤ k) (hF' : ∀ k, F' k → b ≤ k) (T : Went w F' d' n' e' d2' most row' ever' now' row' ever' now' w') (hf : Fair m most row' ever' now') :
    Two b w0 w' d n e d2 d' n' e' d2' most m row ever now := by
  obtain ⟨G, Q, t, f⟩ := T
  exact ⟨F, P.touch t ha, _, _, _, G, Q, hf, fun k hk hg => (f k hg).elim (ha k hk) (fun x => by have := P.lt hk; omega), hB.trans (t.to_below hb hF'), Nat.le_trans hb t.size, hF, fun k hk => (f k hk).elim (hF' k) (fun x => by omega)⟩

theorem Two.make {b : Nat} {w0 w w1 w2 : World} {d n e d2 d' n' e' d2' : Nat} {v' vr vn ve : Value} {most : Int} {m : Nat} {row ever now : List Int} {F : Nat → Prop}
    (P : Pair w d n e d2 most row ever now row ever now F) (hf : Fair m most row ever now) (hb : b ≤ w.heap.size) (hB : Below b w0 w) (hF : ∀ k, F k → b ≤ k)
    (x1 : Ext w w1) (D : DeskAt w1 d' v' n' e' most row ever now) (f1 : ∀ k, Foot d' v' n' e' k → w.heap.size ≤ k)
    (x2 : Ext w1 w2) (R : RefAt w2 d2' most vr vn ve row ever now) (f2 : ∀ k, FootR d2' vr vn ve k → w1.heap.size ≤ k) : Two b w0 w2 d n e d2 d' n' e' d2' most m row ever now := by
  have z := x1.size
  refine ⟨F, (P.ext x1).ext x2, row, ever, now, _, ⟨v', vr, vn, ve, D.ext x2, R, fun k => Iff.rfl, fun k hk hr => ?_⟩, hf, fun k hk hg => ?_, hB.trans (Below.mono (x1.trans x2) hb), Nat.le_trans hb (x1.trans x2).size, hF, fun k hk => ?_⟩
  · have := D.foot_lt hk
    have := f2 k hr
    omega
  · have := P.lt hk
    rcases hg with hg | hg
    · have := f1 k hg; omega
    · have := f2 k hg; omega
  · rcases hk with hk | hk
    · have := f1 k hk; omega
    · have := f2 k hk; omega

/-- Cells that hold tokens and may be written. -/
def Cells64 (w : World) (g q : Nat) : Prop := ∀ j, j < q → (∃ y, w.cell? ⟨g, j, none⟩ = some (.int .u64 y)) ∧ w.frozen? ⟨g, j, none⟩ = false
theorem cells64_of {w : World} {base : Nat} {v : Value} {l : List Int} (h : Own u64E w base 38 v l) (h0 : 0 < l.length) : ∃ g c, v = .slice (some ⟨g, 0, none⟩) l.length c ∧ base ≤ g ∧ g < w.heap.size ∧ Cells64 w g l.length := by
  obtain ⟨g, c, rfl, hg, hgl⟩ := own_pos h h0
  rcases RowO.of_own h with ⟨hv, _⟩ | ⟨g', off, cap, hv, hgl', hl, hc, hf⟩
  · cases hv
  · simp only [Value.slice.injEq, Option.some.injEq, Addr.mk.injEq] at hv
    obtain ⟨⟨rfl, rfl, _⟩, _, rfl⟩ := hv
    refine ⟨g, c, rfl, hg, hgl, fun j hj => ?_⟩
    have h1 := hc j hj
    have h2 := (hf j (by omega)).2
    rw [Nat.zero_add] at h1 h2
    exact ⟨⟨_, h1⟩, h2⟩
theorem Cells64.set {w : World} {g q p : Nat} (h : Cells64 w g q) (hp : p < q) (z : Int) : Cells64 (w.setCell ⟨g, p, none⟩ (.int .u64 z)) g q := fun j hj => by
  refine ⟨?_, ?_⟩
  · by_cases e : j = p
    · subst e
      obtain ⟨⟨y, hy⟩, _⟩ := h j hj
      exact ⟨z, World.cell?_setCell_same' _ _ _ (by rw [hy]; rfl)⟩
    · obtain ⟨⟨y, hy⟩, _⟩ := h j hj
      exact ⟨y, by rw [World.cell?_setCell_other _ _ _ _ (fun x => by simp at x; try omega)]; exact hy⟩
  · rw [World.frozen?_setCell]; exact (h j hj).2
end Go.Proofs.Ytifbmapianddcaa
