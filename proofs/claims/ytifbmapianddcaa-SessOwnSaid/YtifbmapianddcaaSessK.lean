/- Walk of maps.Keys' iterator over a map from uint64 to int. -/
import Derived.Test.YtifbmapianddcaaMapK
import Derived.Test.YtifbmapianddcaaRangeM
import Derived.Maps.OwnIn
import Derived.Sort.MapsRangeIn
import Derived.RangeFuncSeq
import Derived.OwnWalkIn
import Derived.TacticsInMore
import Derived.RegionIn
import Derived.LoopNIn
import Derived.LoopIn
set_option linter.all false
set_option linter.unusedVariables false
set_option linter.unusedSimpArgs false
namespace Go.Proofs.Ytifbmapianddcaa
open Go.RowKit

/-- What has come of a map's keys, while left says what is still to come. -/
def KeysU (D : DataW Unit) (left : Lit → Bool) (ss : List Int) : Prop := ss.Nodup ∧ ∀ x, x ∈ ss ↔ (U64 x ∧ Maps.has D (.int .u64 x) = true ∧ left (.int .u64 x) = false)
def KeysPre (D : DataW Unit) (ss : List Int) : Prop := ss.Nodup ∧ ∀ x ∈ ss, U64 x ∧ Maps.has D (.int .u64 x) = true
def KeysAll (D : DataW Unit) (ss : List Int) : Prop := ss.Nodup ∧ ∀ x, x ∈ ss ↔ (U64 x ∧ Maps.has D (.int .u64 x) = true)

theorem KeysU.start (D : DataW Unit) : KeysU D (Maps.has D) [] := ⟨List.nodup_nil, fun x => by cases Maps.has D (.int .u64 x) <;> simp⟩
theorem KeysU.step {D : DataW Unit} {left : Lit → Bool} {ss : List Int} (h : KeysU D left ss) {x : Int} {y : DataW Unit} (hx : U64 x) (hlk : left (.int .u64 x) = true) (hat : ∀ zd, D.atKey (.int .u64 x) zd = y) :
    KeysU D (fun z => left z && !z.sameKey (.int .u64 x)) (ss ++ [x]) := by
  have hhas : Maps.has D (.int .u64 x) = true := Maps.has_true_of_atKey hat
  have hnew : x ∉ ss := fun hm => by have := ((h.2 x).1 hm).2.2; rw [hlk] at this; cases this
  refine ⟨List.nodup_append.2 ⟨h.1, by simp, fun a ha b hb => by simp at hb; subst hb; exact fun e => hnew (e ▸ ha)⟩, fun y => ?_⟩
  by_cases hy : y = x
  · subst hy; simp [hhas, hx, Lit.sameKey]
  · simp [h.2 y, hy, Lit.sameKey]
theorem KeysU.pre {D : DataW Unit} {left : Lit → Bool} {ss : List Int} (h : KeysU D left ss) : KeysPre D ss := ⟨h.1, fun x hx => ⟨((h.2 x).1 hx).1, ((h.2 x).1 hx).2.1⟩⟩
theorem KeysU.all {D : DataW Unit} {left : Lit → Bool} {ss : List Int} (h : KeysU D left ss) (hl : ∀ kl, left kl = false) : KeysAll D ss := ⟨h.1, fun x => by rw [h.2 x]; simp [hl]⟩

theorem ranges_touch {S : Nat → Prop} {w w' : World} {b r N : Nat} {D : DataW Unit} {left : Lit → Bool} {cnt : Nat} (h : w.ranges Try.prog 38 (plainElem Try.prog 3) b r N D left cnt) (t : Touch S w w') (hb : ¬ S b) (hr : ¬ S r) : w'.ranges Try.prog 38 (plainElem Try.prog 3) b r N D left cnt := by
  obtain ⟨es, clock, since, seen, c0, h1, h2, h3, h4, h5, h6⟩ := h
  exact ⟨es, clock, since, seen, c0, (t.block b (lt_of_block h1) hb).trans h1, h2, h3, h4, (t.block r (lt_of_block h5) hr).trans h5, h6⟩
theorem ranges_lt {w : World} {b r N : Nat} {D : DataW Unit} {left : Lit → Bool} {cnt : Nat} (h : w.ranges Try.prog 38 (plainElem Try.prog 3) b r N D left cnt) : r < w.heap.size := by
  obtain ⟨es, clock, since, seen, c0, h1, h2, h3, h4, h5, h6⟩ := h
  exact lt_of_block h5

set_option maxRecDepth 100000 in
set_option maxHeartbeats 1000000 in
theorem keys1_iter {w : World} {bm b N : Nat} {D : DataW Unit} (hm : w.cell? ⟨bm, 0, none⟩ = some (.map (some b))) (hown : w.ownsMap Try.prog 38 (plainElem Try.prog 3) b N D) (zm : bm < w.heap.size) :
    IterM Try.prog 132 #[.pointer (some ⟨bm, 0, none⟩)] (fun x : Int => #[.int .u64 x]) (KeysPre D) (KeysAll D) (fun k => k = b) w := by
  intro l J W hx hT hY h0
  replace hm := (hx.cell (p := ⟨bm, 0, none⟩) zm).trans hm
  have hbl := hown.lt
  have hbz : b ≠ W.heap.size := by have := hx.size; omega
  replace hown := ownsMap_touch hown (Touch.of_ext (S := fun _ => False) hx) (fun x => x)
  clear hx zm hbl
  refine callsIn_wide.1 (callsIn_of_wp (n := 3) Try.func132 rfl trivial ?_ rfl)
  simp only [Try.ntmps132, List.size_toArray, List.length_cons, List.length_nil, Nat.reduceAdd, Nat.reduceSub, Array.replicate_succ, Array.replicate_zero, List.push_toArray, List.append_toArray, List.nil_append, List.cons_append]
  gi_wp2_with (first
    | (gi_at_range; refine wpListIn_range_own _ rfl _ 147 rfl 38 3 keyed64 Try.underlying147 _ b N _ rfl hown ?_; intro w0 hrg0 hg0 hs0)
    | gi_in)
  (try go_frame)
  gi_loopw [3] (fun _ wr => ∃ (left : Lit → Bool) (cnt : Nat) (ss : List Int), wr.ranges Try.prog 38 (plainElem Try.prog 3) b W.heap.size N D left cnt ∧ KeysU D left ss ∧ J ss wr)
    (fun _ wr => wr.rangeLeft b W.heap.size)
  case atStart =>
    exact ⟨_, _, [], hrg0, KeysU.start D, hT _ _ _ h0 ((Touch.refl _ W).grown hg0 (fun k e => by cases e))⟩
  case round =>
    obtain ⟨left, cnt, ss, hrg, hC, hJs⟩ := hrel
    gi_wp2_with (first
      | (gi_at_next; refine wpListIn_next_ranges_ii _ rfl _ rfl 38 3 .u64 .i64 keyed64 Try.underlying38 Try.underlying3 b W.heap.size N _ _ _ rfl hrg ?_ ?_)
      | gi_in)
    · intro hc0 hl0
      gi_wp2
      go_end0
      exact ⟨⟨_, rfl⟩, ss, hC.all hl0, hJs⟩
    · intro x c w2 cnt2 hwx hwc hlk hat hrg2 hlt hg2 hs2 hen
      have hJ2 : J ss w2 := hT _ _ _ hJs ((Touch.refl _ wr).grown hg2 (fun k e => by cases e; exact .inl rfl))
      have hC2 := hC.step hwx hlk hat
      obtain ⟨fn, tmps, assign, body, hy, hRR⟩ := hY ss x w2 hJ2 (ranges_lt hrg2) hC2.pre
      clear hs2
      gi_wp2
      refine hRR.mono ?_
      rintro e W3 ⟨rfl, hJ3, t3⟩
      gi_wp2
      have hrg3 := ranges_touch hrg2 t3 (fun h => h.2 rfl) (fun h => h.1 rfl)
      go_roundw
      case rel => exact ⟨_, cnt2, ss ++ [x], hrg3, hC2, hJ3⟩
      case measure => rw [hrg3.left_eq, hrg.left_eq]; exact hlt
end Go.Proofs.Ytifbmapianddcaa
