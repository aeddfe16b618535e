/- How the session's open tokens are put in order: the comparison, and the sort of at most twelve tokens. -/
import Derived.Test.YtifbmapianddcaaSessC
import Derived.Maps.OwnOps
import Derived.Shelf.SlSortCmp.Small
import Derived.Shelf.Small.Bits
import Derived.Test.YtifbmapianddcaaLayU
set_option linter.all false
set_option linter.unusedVariables false
set_option linter.unusedSimpArgs false
namespace Go.Proofs.Ytifbmapianddcaa
open Go.RowKit

theorem cmpI_any (x y : Int) (w : World) : Calls Try.prog 93 #[.int .i64 x, .int .i64 y] w fun e w' => e = .returned (.int .i64 (Go.Lib.compareInt x y)) ∧ w = w' := by
  go_enter Try.func93, Try.ntmps93
  go_wp2
  all_goals (go_ret; refine ⟨?_, rfl⟩; unfold Go.Lib.compareInt; (repeat' split) <;> first | rfl | (exfalso; omega))

/-- What a map tells of a token. -/
def tokN (D : DataW Unit) (x : Int) : Int := match D.atKey (.int .u64 x) (.lit (.int .i64 0)) with
  | .lit (.int .i64 c) => c
  | _ => 0

theorem tok_look {W : World} {n N : Nat} {D : DataW Unit} (m : W.ownsMap Try.prog 38 (plainElem Try.prog 3) n N D) (x : Int) (hx : U64 x) : (Instr.lookup 147 (.map (some n)) (.int .u64 x) false).run Try.prog W = .ok (.int .i64 (tokN D x)) W := by
  obtain ⟨c, h1, h2, _⟩ := m.lookup_int keyed64 Try.underlying147 Try.underlying3 (zero64 W) (Maps.keyOf_int_mk Try.underlying38 hx)
  unfold tokN
  rw [h2]
  exact h1

theorem tokCmp_any {W : World} {q d n N : Nat} {D : DataW Unit} (c1 : W.cell? ⟨q, 0, none⟩ = some (.pointer (some ⟨d, 0, none⟩))) (c2 : W.cell? ⟨d, 2, none⟩ = some (.map (some n))) (m : W.ownsMap Try.prog 38 (plainElem Try.prog 3) n N D) (x y : Int) (hx : U64 x) (hy : U64 y) :
    Calls Try.prog 92 #[.int .u64 x, .int .u64 y, .pointer (some ⟨q, 0, none⟩)] W fun e w' => e = .returned (.int .i64 (Go.Lib.compareInt (tokN D x) (tokN D y))) ∧ ∃ k, w' = W.drewN k := by
  have HX : ∀ k, (Instr.lookup 147 (.map (some n)) (.int .u64 x) false).run Try.prog (W.drewN k) = .ok (.int .i64 (tokN D x)) (W.drewN k) := fun k => tok_look (W := W.drewN k) m x hx
  have HY : ∀ k, (Instr.lookup 147 (.map (some n)) (.int .u64 y) false).run Try.prog (W.drewN k) = .ok (.int .i64 (tokN D y)) (W.drewN k) := fun k => tok_look (W := W.drewN k) m y hy
  have HC := hide (fun w => cmpI_any (tokN D x) (tokN D y) w)
  clear m hx hy
  generalize tokN D x = a at HX HC ⊢
  generalize tokN D y = b at HY HC ⊢
  generalize Go.Lib.compareInt a b = r at HC ⊢
  go_enter Try.func92, Try.ntmps92
  go_upto_region 1 with (fail)
  go_quiet ((go_at_call 93; exact Calls.quiet_of_same ((HC.out _).mono (fun e w' h => ⟨h.1, h.2.symm⟩))))
  go_wp2_with fail
  go_ret
  exact ⟨rfl, _, rfl⟩

theorem touch_putRow {α : Type} [Inhabited α] (enc : α → Value) (w : World) (blk off : Nat) (d : Array α) : Touch (fun k => k = blk) w (Go.Sort.putRow enc w blk off d) :=
  ⟨rfl, rfl, rfl, by simp [Go.Sort.putRow, Go.Sort.mapBlock], fun k _ hs => by unfold Go.Sort.putRow Go.Sort.mapBlock; rw [Array.getElem?_modify, if_neg (fun e => hs e.symm)]⟩
theorem touch_grow (S : Nat → Prop) (w : World) (os : Array Obj) : Touch S w (Go.Sort.grow w os) :=
  ⟨rfl, rfl, rfl, by simp [Go.Sort.grow], fun k hk _ => by unfold Go.Sort.grow; exact Array.getElem?_append_left hk⟩
theorem touch_ahead (S : Nat → Prop) (w : World) (m : Nat) : Touch S w (Go.Sort.ahead w m) := ⟨rfl, rfl, rfl, Nat.le_refl _, fun _ _ _ => rfl⟩
theorem touch_sort {α : Type} [Inhabited α] (enc : α → Value) (w : World) (blk off m : Nat) (d : Array α) (os : Array Obj) : Touch (fun k => k = blk) w (Go.Proofs.sortWorld enc w blk off m d os) := by
  unfold Go.Proofs.sortWorld
  exact ((touch_ahead _ w m).trans (touch_putRow enc (Go.Sort.ahead w m) blk off d)).trans (touch_grow _ _ os)

/-- A token as the sort takes it. -/
abbrev TokT : Type := { x : Int // U64 x }
instance : Inhabited TokT := ⟨⟨0, by unfold U64; decide⟩⟩
def encT (x : TokT) : Value := .int .u64 x.1
def cfT (D : DataW Unit) (x y : TokT) : Int := Go.Lib.compareInt (tokN D x.1) (tokN D y.1)

theorem tok_reads {w : World} {blk q d n N : Nat} {D : DataW Unit} (size : Nat) (c1 : w.cell? ⟨q, 0, none⟩ = some (.pointer (some ⟨d, 0, none⟩))) (c2 : w.cell? ⟨d, 2, none⟩ = some (.map (some n))) (m : w.ownsMap Try.prog 38 (plainElem Try.prog 3) n N D)
    (lq : q < w.heap.size) (ld : d < w.heap.size) (hq : q ≠ blk) (hd : d ≠ blk) (hn : n ≠ blk) : CmpReads Try.prog 92 #[.pointer (some ⟨q, 0, none⟩)] encT (cfT D) blk 0 size w := by
  intro k os dk _ x y
  have t := touch_sort encT w blk 0 k dk os
  exact tokCmp_any (by rw [t.cell lq hq]; exact c1) (by rw [t.cell ld hd]; exact c2) (ownsMap_touch m t hn) x.1 y.1 x.2 y.2

theorem cfT_swo (D : DataW Unit) : Go.Sort.SWO (ltOf (cfT D)) := by
  have h : ∀ x y, ltOf (cfT D) x y = decide (tokN D x.1 < tokN D y.1) := fun x y => by
    unfold ltOf cfT Go.Lib.compareInt
    congr 1
    (repeat' split) <;> simp <;> omega
  refine ⟨fun x => ?_, fun x y z => ?_, fun x y z => ?_⟩
  all_goals simp only [h, decide_eq_true_eq, decide_eq_false_iff_not]
  all_goals omega

theorem sortU_any {w : World} {blk cap q d n N : Nat} {D : DataW Unit} (a : Array TokT) (hH : Go.Sort.Holds encT w blk 0 a) (h12 : a.size ≤ 12) (c1 : w.cell? ⟨q, 0, none⟩ = some (.pointer (some ⟨d, 0, none⟩))) (c2 : w.cell? ⟨d, 2, none⟩ = some (.map (some n))) (m : w.ownsMap Try.prog 38 (plainElem Try.prog 3) n N D)
    (lq : q < w.heap.size) (ld : d < w.heap.size) (hq : q ≠ blk) (hd : d ≠ blk) (hn : n ≠ blk) :
    Calls Try.prog 131 #[.slice (some ⟨blk, 0, none⟩) a.size cap, .func (.func 92) #[] #[.pointer (some ⟨q, 0, none⟩)]] w fun e w' => e = .returned (.tuple #[]) ∧ ∃ a' k, Go.Sort.PermIn 0 a.size a a' ∧ Go.Sort.SortedIn (ltOf (cfT D)) 0 a.size a' ∧ w' = (Go.Sort.putRow encT w blk 0 a').drewN k := by
  have eg : ∀ args w, (callFunc 92 args).run Try.prog w = .ok (.enter 92 args) w := enters_of Try.func92 (by kernel_rfl) rfl
  have hlen : ∀ (n : Nat) (W : World), n ≤ 12 → Calls Try.prog 144 #[.int .u64 n] W fun e w' => (∃ l : Int, e = .returned (.int .i64 l)) ∧ w' = W := fun n W h =>
    (Any.bits_Len lenB n W (by omega) (by omega)).mono fun _ _ ⟨he, hw⟩ => ⟨⟨_, he⟩, hw⟩
  exact Any.slices_SortFunc_small_sorted sortU encT (fun _ => rfl) (cfT D) (cfT_swo D) 92 #[.pointer (some ⟨q, 0, none⟩)] blk 0 cap a w eg (tok_reads a.size c1 c2 m lq ld hq hd hn) hH h12 hlen
end Go.Proofs.Ytifbmapianddcaa
