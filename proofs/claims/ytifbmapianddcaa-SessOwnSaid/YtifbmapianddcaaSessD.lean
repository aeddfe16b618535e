/- What holds of a desk and of two rows of numbers beside it while a statement plays with them; the chapter's example. -/
import Derived.Test.YtifbmapianddcaaSessC
set_option linter.all false
set_option linter.unusedVariables false
set_option linter.unusedSimpArgs false
namespace Go.Proofs.Ytifbmapianddcaa
open Go.RowKit

/-- A desk d and two rows vo, vc of the call's own, among the blocks from b on, apart from each other. -/
structure Inv (b : Nat) (w0 w : World) (d n e : Nat) (most : Int) (row ever now : List Int) (vo vc : Value) (opened closed : List Int) : Prop where
  ex : ∃ v, DeskAt w d v n e most row ever now ∧ (∀ k, Foot d v n e k → b ≤ k) ∧ (∀ k, vo.ownBlock = some k → ¬ Foot d v n e k) ∧ (∀ k, vc.ownBlock = some k → ¬ Foot d v n e k)
  oo : Own u64E w b 38 vo opened
  oc : Own u64E w b 38 vc closed
  ne : ∀ k, vo.ownBlock = some k → vc.ownBlock ≠ some k
  bel : Below b w0 w
  hb : b ≤ w.heap.size

section
variable {b : Nat} {w0 w w' : World} {d n e : Nat} {most : Int} {row ever now row' ever' now' : List Int} {vo vc v : Value} {opened closed : List Int}

theorem Inv.of_turned (h : Inv b w0 w d n e most row ever now vo vc opened closed) (hv : DeskAt w d v n e most row ever now ∧ (∀ k, Foot d v n e k → b ≤ k) ∧ (∀ k, vo.ownBlock = some k → ¬ Foot d v n e k) ∧ (∀ k, vc.ownBlock = some k → ¬ Foot d v n e k))
    (T : Turned w d v n e most row' ever' now' w') : Inv b w0 w' d n e most row' ever' now' vo vc opened closed := by
  obtain ⟨v', D', t, l⟩ := T
  obtain ⟨_, f1, f2, f3⟩ := hv
  have foot : ∀ k, Foot d v' n e k → Foot d v n e k ∨ w.heap.size ≤ k := by
    rintro k (hk | hk | hk | hk)
    · exact .inl (.inl hk)
    · rcases l k hk with h1 | h1
      · exact .inl (.inr (.inl h1))
      · exact .inr h1
    · exact .inl (.inr (.inr (.inl hk)))
    · exact .inl (.inr (.inr (.inr hk)))
  have hb := h.hb
  refine ⟨⟨v', D', fun k hk => ?_, fun k hk hf => ?_, fun k hk hf => ?_⟩, h.oo.touch t f2, h.oc.touch t f3, h.ne, h.bel.trans (t.to_below hb f1), Nat.le_trans hb t.size⟩
  · rcases foot k hk with h1 | h1
    · exact f1 k h1
    · omega
  · rcases foot k hf with h1 | h1
    · exact f2 k hk h1
    · have := (own_lt h.oo hk).2; omega
  · rcases foot k hf with h1 | h1
    · exact f3 k hk h1
    · have := (own_lt h.oc hk).2; omega

theorem Inv.ext (h : Inv b w0 w d n e most row ever now vo vc opened closed) (x : Ext w w') : Inv b w0 w' d n e most row ever now vo vc opened closed := by
  obtain ⟨v, D, f⟩ := h.ex
  exact ⟨⟨v, D.ext x, f⟩, h.oo.ext x, h.oc.ext x, h.ne, h.bel.trans (Below.mono x h.hb), Nat.le_trans h.hb x.size⟩

theorem Inv.app_o (h : Inv b w0 w d n e most row ever now vo vc opened closed) {g c q : Nat} {l' : List Int} (o : Own u64E w' b 38 (.slice (some ⟨g, 0, none⟩) q c) l') (t : Touch (fun k => vo.ownBlock = some k) w w') (l : vo.ownBlock = some g ∨ w.heap.size ≤ g) :
    Inv b w0 w' d n e most row ever now (.slice (some ⟨g, 0, none⟩) q c) vc l' closed := by
  obtain ⟨v, D, f1, f2, f3⟩ := h.ex
  have lo : ∀ k, vo.ownBlock = some k → b ≤ k := fun k hk => (own_lt h.oo hk).1
  refine ⟨⟨v, D.touch t (fun k hk ho => f2 k ho hk), f1, fun k hk hf => ?_, f3⟩, o, h.oc.touch t (fun k hk ho => h.ne k ho hk), fun k hk hc => ?_, h.bel.trans (t.to_below h.hb lo), Nat.le_trans h.hb t.size⟩
  · simp only [Value.ownBlock, Option.some.injEq] at hk
    subst hk
    rcases l with l | l
    · exact f2 g l hf
    · have := D.foot_lt hf; omega
  · simp only [Value.ownBlock, Option.some.injEq] at hk
    subst hk
    rcases l with l | l
    · exact h.ne g l hc
    · have := (own_lt h.oc hc).2; omega

theorem Inv.app_c (h : Inv b w0 w d n e most row ever now vo vc opened closed) {g c q : Nat} {l' : List Int} (o : Own u64E w' b 38 (.slice (some ⟨g, 0, none⟩) q c) l') (t : Touch (fun k => vc.ownBlock = some k) w w') (l : vc.ownBlock = some g ∨ w.heap.size ≤ g) :
    Inv b w0 w' d n e most row ever now vo (.slice (some ⟨g, 0, none⟩) q c) opened l' := by
  obtain ⟨v, D, f1, f2, f3⟩ := h.ex
  have lo : ∀ k, vc.ownBlock = some k → b ≤ k := fun k hk => (own_lt h.oc hk).1
  refine ⟨⟨v, D.touch t (fun k hk ho => f3 k ho hk), f1, f2, fun k hk hf => ?_⟩, h.oo.touch t (fun k hk ho => h.ne k hk ho), o, fun k hk hc => ?_, h.bel.trans (t.to_below h.hb lo), Nat.le_trans h.hb t.size⟩
  · simp only [Value.ownBlock, Option.some.injEq] at hk
    subst hk
    rcases l with l | l
    · exact f3 g l hf
    · have := D.foot_lt hf; omega
  · simp only [Value.ownBlock, Option.some.injEq] at hc
    subst hc
    rcases l with l | l
    · exact h.ne g hk l
    · have := (own_lt h.oo hk).2; omega

def StartDesk (w : World) (most : Int) (x : Ending) (w' : World) : Prop := ∃ d n e, x = .returned (.tuple #[.pointer (some ⟨d, 0, none⟩), .int .i64 0]) ∧ Inv w.heap.size w w' d n e most [] [] [] (.slice none 0 0) (.slice none 0 0) [] []

theorem iNew (most : Int) (w : World) (h1 : 1 ≤ most) (h2 : most ≤ 4) : Calls Try.prog 38 #[.int .i64 most] w (StartDesk w most) := by
  refine (sNew_yes most w h1 h2).mono fun x w' ⟨d, n, m, hx, he, l1, l2, l3, D⟩ => ⟨d, n, m, hx, ⟨⟨_, D, ?_, (fun k hk => by cases hk), (fun k hk => by cases hk)⟩, Own.nil _ _ _ _, Own.nil _ _ _ _, (fun k hk => by cases hk), he, he.size⟩⟩
  rintro k (hk | hk | hk | hk)
  · omega
  · cases hk
  · omega
  · omega

theorem iDraw_ok (h : Inv b w0 w d n e most row ever now vo vc opened closed) (hf : (row.length : Int) < 1024) (x : Int) (hx : U64 x) : Calls Try.prog 40 #[.pointer (some ⟨d, 0, none⟩), .int .u64 x] w fun r w' => r = .returned (.int .i64 0) ∧ Inv b w0 w' d n e most (row ++ [x]) ever now vo vc opened closed := by
  obtain ⟨v, D⟩ := h.ex
  exact (sDraw_ok D.1 hf x hx).mono fun r w' ⟨hr, T⟩ => ⟨hr, h.of_turned D T⟩
theorem iDraw_full (h : Inv b w0 w d n e most row ever now vo vc opened closed) (hf : (1024 : Int) ≤ (row.length : Int)) (x : Int) : Calls Try.prog 40 #[.pointer (some ⟨d, 0, none⟩), .int .u64 x] w fun r w' => r = .returned (.int .i64 16) ∧ w = w' := by
  obtain ⟨v, D⟩ := h.ex
  exact sDraw_full D.1 hf x
theorem iClose_no (h : Inv b w0 w d n e most row ever now vo vc opened closed) (x : Int) (hx : U64 x) (hn : x ∉ now) : Calls Try.prog 44 #[.pointer (some ⟨d, 0, none⟩), .int .u64 x] w fun r w' => r = .returned (.int .i64 19) ∧ w = w' := by
  obtain ⟨v, D⟩ := h.ex
  exact sClose_no D.1 x hx hn
theorem iClose_ok (h : Inv b w0 w d n e most row ever now vo vc opened closed) (x : Int) (hx : U64 x) (hn : x ∈ now) : Calls Try.prog 44 #[.pointer (some ⟨d, 0, none⟩), .int .u64 x] w fun r w' => r = .returned (.int .i64 0) ∧ Inv b w0 w' d n e most row ever (now.erase x) vo vc opened closed := by
  obtain ⟨v, D⟩ := h.ex
  exact (sClose_ok D.1 x hx hn).mono fun r w' ⟨hr, T⟩ => ⟨hr, h.of_turned D T⟩
theorem iHas (h : Inv b w0 w d n e most row ever now vo vc opened closed) (x : Int) (hx : U64 x) : Calls Try.prog 46 #[.pointer (some ⟨d, 0, none⟩), .int .u64 x] w fun r w' => r = .returned (.bool (decide (x ∈ now))) ∧ w = w' := by
  obtain ⟨v, D⟩ := h.ex
  exact sHas_any D.1 x hx
theorem iCount (h : Inv b w0 w d n e most row ever now vo vc opened closed) : Calls Try.prog 48 #[.pointer (some ⟨d, 0, none⟩)] w fun r w' => r = .returned (.int .i64 (now.length : Int)) ∧ w = w' := by
  obtain ⟨v, D⟩ := h.ex
  exact sCount_any D.1
theorem iLeft (h : Inv b w0 w d n e most row ever now vo vc opened closed) : Calls Try.prog 49 #[.pointer (some ⟨d, 0, none⟩)] w fun r w' => r = .returned (.int .i64 (row.length : Int)) ∧ w = w' := by
  obtain ⟨v, D⟩ := h.ex
  exact sLeft_any D.1
theorem iOpen_full (h : Inv b w0 w d n e most row ever now vo vc opened closed) (hm : most ≤ (now.length : Int)) : Calls Try.prog 42 #[.pointer (some ⟨d, 0, none⟩)] w fun r w' => r = .returned (.tuple #[.int .u64 0, .int .i64 16]) ∧ Inv b w0 w' d n e most row ever now vo vc opened closed := by
  obtain ⟨v, D⟩ := h.ex
  exact (sOpen_full D.1 hm).mono fun r w' ⟨hr, T⟩ => ⟨hr, h.ext T⟩
theorem iOpen_none (h : Inv b w0 w d n e most [] ever now vo vc opened closed) (hm : (now.length : Int) < most) : Calls Try.prog 42 #[.pointer (some ⟨d, 0, none⟩)] w fun r w' => r = .returned (.tuple #[.int .u64 0, .int .i64 14]) ∧ Inv b w0 w' d n e most [] ever now vo vc opened closed := by
  obtain ⟨v, D⟩ := h.ex
  exact (sOpen_none D.1 hm).mono fun r w' ⟨hr, T⟩ => ⟨hr, h.ext T⟩
theorem iOpen_retry {t : Int} {r : List Int} (h : Inv b w0 w d n e most (t :: r) ever now vo vc opened closed) (hm : (now.length : Int) < most) (hl : r.length ≤ 100000) (ht : t ∈ ever ∨ t = 0) : Calls Try.prog 42 #[.pointer (some ⟨d, 0, none⟩)] w fun x w' => x = .returned (.tuple #[.int .u64 0, .int .i64 20]) ∧ Inv b w0 w' d n e most r ever now vo vc opened closed := by
  obtain ⟨v, D⟩ := h.ex
  exact (sOpen_retry D.1 hm hl ht).mono fun r w' ⟨hr, T⟩ => ⟨hr, h.of_turned D T⟩
theorem iOpen_ok {t : Int} {r : List Int} (h : Inv b w0 w d n e most (t :: r) ever now vo vc opened closed) (hm : (now.length : Int) < most) (hl : r.length ≤ 100000) (hle : ever.length ≤ 1000000) (ht : t ∉ ever) (ht0 : (t == 0) = false) : Calls Try.prog 42 #[.pointer (some ⟨d, 0, none⟩)] w fun x w' => x = .returned (.tuple #[.int .u64 t, .int .i64 0]) ∧ Inv b w0 w' d n e most r (ever ++ [t]) (now ++ [t]) vo vc opened closed := by
  obtain ⟨v, D⟩ := h.ex
  exact (sOpen_ok D.1 hm hl hle ht ht0).mono fun r w' ⟨hr, T⟩ => ⟨hr, h.of_turned D T⟩
end

set_option maxRecDepth 100000 in
set_option maxHeartbeats 1000000 in
theorem awake21_any (w : World) : Calls Try.prog 39 #[] w fun e w' => e = .returned (.bool true) ∧ Ext w w' := by
  have u5 : U64 5 := by unfold U64; decide
  have u7 : U64 7 := by unfold U64; decide
  have U5 := hide u5
  have U7 := hide u7
  clear u5 u7
  go_enter Try.func39, Try.ntmps39
  go_wp2_with fail
  refine (iNew 1 w (by omega) (by omega)).mono ?_
  rintro x w1 ⟨d, n, e, rfl, i1⟩
  have I1 := hide i1; clear i1
  go_wp2_with fail
  refine (iDraw_ok I1.out (by simp) 5 U5.out).mono ?_
  rintro x w2 ⟨rfl, i2⟩
  have I2 := hide i2; clear i2
  go_wp2_with fail
  refine (iDraw_ok I2.out (by simp) 5 U5.out).mono ?_
  rintro x w3 ⟨rfl, i3⟩
  have I3 := hide i3; clear i3
  go_wp2_with fail
  refine (iDraw_ok I3.out (by simp) 7 U7.out).mono ?_
  rintro x w4 ⟨rfl, i4⟩
  have I4 := hide i4; clear i4
  go_wp2_with fail
  refine (iOpen_ok I4.out (by simp) (by simp) (by simp) (by simp) (by decide)).mono ?_
  rintro x w5 ⟨rfl, i5⟩
  have I5 := hide i5; clear i5
  go_wp2_with fail
  refine (iOpen_full I5.out (by simp)).mono ?_
  rintro x w6 ⟨rfl, i6⟩
  have I6 := hide i6; clear i6
  go_wp2_with fail
  refine (iClose_ok I6.out 5 U5.out (by simp)).mono ?_
  rintro x w7 ⟨rfl, i7⟩
  have I7 := hide i7; clear i7
  go_wp2_with fail
  refine (iOpen_retry I7.out (by simp) (by simp) (.inl (by simp))).mono ?_
  rintro x w8 ⟨rfl, i8⟩
  have I8 := hide i8; clear i8
  go_wp2_with fail
  refine (iOpen_ok I8.out (by simp) (by simp) (by simp) (by simp) (by decide)).mono ?_
  rintro x w9 ⟨rfl, i9⟩
  have I9 := hide i9; clear i9
  go_wp2_with fail
  refine (iLeft I9.out).mono ?_
  rintro x w10 ⟨rfl, rfl⟩
  go_wp2
  go_ret
  exact ⟨rfl, I9.out.bel⟩
end Go.Proofs.Ytifbmapianddcaa
