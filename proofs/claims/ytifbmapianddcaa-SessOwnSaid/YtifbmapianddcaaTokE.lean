/- One call, done on a desk and on the reference's; what a nil desk tells. -/
import Derived.Test.YtifbmapianddcaaTokD
set_option linter.all false
set_option linter.unusedVariables false
set_option linter.unusedSimpArgs false
namespace Go.Proofs.Ytifbmapianddcaa
open Go.RowKit

structure TS where
  row : List Int
  ever : List Int
  now : List Int
def openS (most : Int) (s : TS) : TS :=
  if (s.now.length : Int) < most then
    match s.row with
    | [] => s
    | t :: r => if t ∈ s.ever ∨ t = 0 then ⟨r, s.ever, s.now⟩ else ⟨r, s.ever ++ [t], s.now ++ [t]⟩
  else s
def stepS (most : Int) (s : TS) (kd x : Int) : TS :=
  if kd = 0 then (if (s.row.length : Int) < 1024 then ⟨s.row ++ [x], s.ever, s.now⟩ else s)
  else if kd = 1 then openS most s
  else if kd = 2 then ⟨s.row, s.ever, s.now.erase x⟩
  else s

def openRes (most : Int) (s : TS) : Int × Int :=
  if (s.now.length : Int) < most then
    match s.row with
    | [] => (0, 14)
    | t :: _ => if t ∈ s.ever ∨ t = 0 then (0, 20) else (t, 0)
  else (0, 16)
theorem Fair.open {m : Nat} {most : Int} {s : TS} (h : Fair m most s.row s.ever s.now) : Fair (m + 1) most (openS most s).row (openS most s).ever (openS most s).now := by
  obtain ⟨row, ever, now⟩ := s
  unfold openS
  simp only at h ⊢
  by_cases hm : (now.length : Int) < most
  · rw [if_pos hm]
    rcases row with _ | ⟨t, r⟩
    · exact h.more
    · simp only
      by_cases ht : t ∈ ever ∨ t = 0
      · rw [if_pos ht]; exact h.retry
      · rw [if_neg ht]; exact h.opened hm
  · rw [if_neg hm]; exact h.more
theorem Fair.step {m : Nat} {most : Int} {s : TS} (h : Fair m most s.row s.ever s.now) (kd : Int) {x : Int} (hx : U64 x) : Fair (m + 1) most (stepS most s kd x).row (stepS most s kd x).ever (stepS most s kd x).now := by
  unfold stepS
  by_cases k0 : kd = 0
  · rw [if_pos k0]
    by_cases hr : (s.row.length : Int) < 1024
    · rw [if_pos hr]; exact h.draw hx hr
    · rw [if_neg hr]; exact h.more
  · rw [if_neg k0]
    by_cases k1 : kd = 1
    · rw [if_pos k1]; exact h.open
    · rw [if_neg k1]
      by_cases k2 : kd = 2
      · rw [if_pos k2]; exact h.shut x
      · rw [if_neg k2]; exact h.more

section
variable {w w' : World} {d n e : Nat} {v vr vn ve : Value} {most : Int} {s : TS} {m : Nat}
theorem Turned.of_ext {row ever now : List Int} (h : DeskAt w d v n e most row ever now) (x : Ext w w') : Turned w d v n e most row ever now w' :=
  ⟨v, h.ext x, Touch.of_ext x, fun k hk => .inl hk⟩

/-- Open, whatever the state is: the errors aside. -/
theorem sOpen_st (h : DeskAt w d v n e most s.row s.ever s.now) (f : Fair m most s.row s.ever s.now) (hm : m ≤ 1000) :
    Calls Try.prog 42 #[.pointer (some ⟨d, 0, none⟩)] w fun r w' => r = .returned (.tuple #[.int .u64 (openRes most s).1, .int .i64 (openRes most s).2]) ∧ Turned w d v n e most (openS most s).row (openS most s).ever (openS most s).now w' := by
  obtain ⟨row, ever, now⟩ := s
  have f1 := f.fe
  have f3 := f.fr
  unfold openS openRes
  simp only at h f f1 f3 ⊢
  by_cases hm' : (now.length : Int) < most
  · rw [if_pos hm', if_pos hm']
    rcases row with _ | ⟨t, r⟩
    · exact (sOpen_none h hm').mono fun r w' ⟨h1, h2⟩ => ⟨h1, Turned.of_ext h h2⟩
    · simp only [List.length_cons] at f3
      simp only
      by_cases ht : t ∈ ever ∨ t = 0
      · rw [if_pos ht, if_pos ht]
        exact (sOpen_retry h hm' (by omega) ht).mono fun r w' ⟨h1, h2⟩ => ⟨h1, h2⟩
      · rw [if_neg ht, if_neg ht]
        exact (sOpen_ok h hm' (by omega) (by omega) (fun x => ht (.inl x)) (by simp; exact fun x => ht (.inr x))).mono fun r w' ⟨h1, h2⟩ => ⟨h1, h2⟩
  · rw [if_neg hm', if_neg hm']
    exact (sOpen_full h (by omega)).mono fun r w' ⟨h1, h2⟩ => ⟨h1, Turned.of_ext h h2⟩

theorem rkOpen_st {d : Nat} (h : RefAt w d most vr vn ve s.row s.ever s.now) (f : Fair m most s.row s.ever s.now) (hm : m ≤ 1000) (h4 : most ≤ 4) :
    Calls Try.prog 43 #[.pointer (some ⟨d, 0, none⟩)] w fun r w' => r = .returned (.tuple #[.int .u64 (openRes most s).1, .int .i64 (openRes most s).2]) ∧ TurnedR w d most vr vn ve (openS most s).row (openS most s).ever (openS most s).now w' := by
  obtain ⟨row, ever, now⟩ := s
  have f1 := f.fe
  have f2 := f.fn
  unfold openS openRes
  simp only at h f f1 f2 ⊢
  by_cases hm' : (now.length : Int) < most
  · rw [if_pos hm', if_pos hm']
    rcases row with _ | ⟨t, r⟩
    · exact (rkOpen_none h hm').mono fun r w' ⟨h1, h2⟩ => ⟨h1, h2⟩
    · simp only
      by_cases ht : t ∈ ever ∨ t = 0
      · rw [if_pos ht, if_pos ht]
        exact (rkOpen_retry h hm' (by omega) ht).mono fun r w' ⟨h1, h2⟩ => ⟨h1, h2⟩
      · rw [if_neg ht, if_neg ht]
        exact (rkOpen_ok h hm' (by omega) (by omega) (fun x => ht (.inl x)) (by simp; exact fun x => ht (.inr x))).mono fun r w' ⟨h1, h2⟩ => ⟨h1, h2⟩
  · rw [if_neg hm', if_neg hm']
    exact (rkOpen_full h (by omega)).mono fun r w' ⟨h1, h2⟩ => ⟨h1, h2⟩

theorem erase_no {x : Int} {l : List Int} (h : x ∉ l) : l.erase x = l := List.erase_of_not_mem h

set_option maxRecDepth 100000 in
theorem does_any (h : DeskAt w d v n e most s.row s.ever s.now) (f : Fair m most s.row s.ever s.now) (hm : m ≤ 1000) (kd x : Int) (hx : U64 x) :
    Calls Try.prog 53 #[.pointer (some ⟨d, 0, none⟩), .agg #[.int .i64 kd, .int .u64 x]] w fun r w' => r = .returned (.tuple #[]) ∧ Turned w d v n e most (stepS most s kd x).row (stepS most s kd x).ever (stepS most s kd x).now w' := by
  have X := hide (show Ext w (w.alloc (.cells #[.int .i64 kd, .int .u64 x] 87)) from (Ext.refl w).alloc _)
  have H := hide (h.ext X.out)
  have HF := hide f
  have f2 := f.fn
  have HX := hide hx
  unfold stepS
  clear h f hx
  by_cases k0 : kd = 0
  · subst k0
    rw [if_pos rfl]
    by_cases hr : (s.row.length : Int) < 1024
    · rw [if_pos hr]
      go_enter Try.func53, Try.ntmps53
      go_wp2_with (go_at_call 40; refine (sDraw_ok H.out hr x HX.out).mono ?_; rintro r w2 ⟨rfl, T⟩; have T2 := hide T; clear T)
      go_end0
      exact ⟨rfl, Turned.pre T2.out X.out⟩
    · rw [if_neg hr]
      go_enter Try.func53, Try.ntmps53
      go_wp2_with (go_at_call 40; refine (sDraw_full H.out (by omega) x).mono ?_; rintro r w2 ⟨rfl, rfl⟩; have T2 := hide (Turned.of_ext H.out (Ext.refl _)))
      go_end0
      exact ⟨rfl, Turned.pre T2.out X.out⟩
  · rw [if_neg k0]
    by_cases k1 : kd = 1
    · subst k1
      rw [if_pos rfl]
      go_enter Try.func53, Try.ntmps53
      go_wp2_with (go_at_call 42; refine (sOpen_st H.out HF.out hm).mono ?_; rintro r w2 ⟨rfl, T⟩; have T2 := hide T; clear T)
      go_end0
      exact ⟨rfl, Turned.pre T2.out X.out⟩
    · rw [if_neg k1]
      by_cases k2 : kd = 2
      · subst k2
        rw [if_pos rfl]
        by_cases hn : x ∈ s.now
        · have HN := hide hn
          clear hn
          go_enter Try.func53, Try.ntmps53
          go_wp2_with (go_at_call 44; refine (sClose_ok H.out x HX.out HN.out).mono ?_; rintro r w2 ⟨rfl, T⟩; have T2 := hide T; clear T)
          go_end0
          exact ⟨rfl, Turned.pre T2.out X.out⟩
        · have HN := hide hn
          clear hn
          rw [erase_no HN.out]
          go_enter Try.func53, Try.ntmps53
          go_wp2_with (go_at_call 44; refine (sClose_no H.out x HX.out HN.out).mono ?_; rintro r w2 ⟨rfl, rfl⟩; have T2 := hide (Turned.of_ext H.out (Ext.refl _)))
          go_end0
          exact ⟨rfl, Turned.pre T2.out X.out⟩
      · rw [if_neg k2]
        go_enter Try.func53, Try.ntmps53
        go_wp2
        go_end0
        have T2 := hide (Turned.of_ext H.out (Ext.refl _))
        exact ⟨rfl, Turned.pre T2.out X.out⟩

set_option maxRecDepth 100000 in
theorem plays_act {d : Nat} (h : RefAt w d most vr vn ve s.row s.ever s.now) (f : Fair m most s.row s.ever s.now) (hm : m ≤ 1000) (h4 : most ≤ 4) (kd x : Int) (hx : U64 x) :
    Calls Try.prog 54 #[.pointer (some ⟨d, 0, none⟩), .agg #[.int .i64 kd, .int .u64 x]] w fun r w' => r = .returned (.tuple #[]) ∧ TurnedR w d most vr vn ve (stepS most s kd x).row (stepS most s kd x).ever (stepS most s kd x).now w' := by
  have X := hide (show Ext w (w.alloc (.cells #[.int .i64 kd, .int .u64 x] 87)) from (Ext.refl w).alloc _)
  have H := hide (h.ext X.out)
  have HF := hide f
  have f2 := f.fn
  have HX := hide hx
  unfold stepS
  clear h f hx
  by_cases k0 : kd = 0
  · subst k0
    rw [if_pos rfl]
    by_cases hr : (s.row.length : Int) < 1024
    · rw [if_pos hr]
      go_enter Try.func54, Try.ntmps54
      go_wp2_with (go_at_call 41; refine (rkDraw_ok H.out hr x).mono ?_; rintro r w2 ⟨rfl, T⟩; have T2 := hide T; clear T)
      go_end0
      exact ⟨rfl, TurnedR.pre T2.out X.out⟩
    · rw [if_neg hr]
      go_enter Try.func54, Try.ntmps54
      go_wp2_with (go_at_call 41; refine (rkDraw_full H.out (by omega) x).mono ?_; rintro r w2 ⟨rfl, T⟩; have T2 := hide T; clear T)
      go_end0
      exact ⟨rfl, TurnedR.pre T2.out X.out⟩
  · rw [if_neg k0]
    by_cases k1 : kd = 1
    · subst k1
      rw [if_pos rfl]
      go_enter Try.func54, Try.ntmps54
      go_wp2_with (go_at_call 43; refine (rkOpen_st H.out HF.out hm h4).mono ?_; rintro r w2 ⟨rfl, T⟩; have T2 := hide T; clear T)
      go_end0
      exact ⟨rfl, TurnedR.pre T2.out X.out⟩
    · rw [if_neg k1]
      by_cases k2 : kd = 2
      · subst k2
        rw [if_pos rfl]
        by_cases hn : x ∈ s.now
        · have HN := hide hn
          clear hn
          go_enter Try.func54, Try.ntmps54
          go_wp2_with (go_at_call 45; refine (rkClose_ok H.out (by omega) x HN.out).mono ?_; rintro r w2 ⟨rfl, T⟩; have T2 := hide T; clear T)
          go_end0
          exact ⟨rfl, TurnedR.pre T2.out X.out⟩
        · have HN := hide hn
          clear hn
          rw [erase_no HN.out]
          go_enter Try.func54, Try.ntmps54
          go_wp2_with (go_at_call 45; refine (rkClose_no H.out (by omega) x HN.out).mono ?_; rintro r w2 ⟨rfl, T⟩; have T2 := hide T; clear T)
          go_end0
          exact ⟨rfl, TurnedR.pre T2.out X.out⟩
      · rw [if_neg k2]
        go_enter Try.func54, Try.ntmps54
        go_wp2
        go_end0
        have T2 := hide (TurnedR.same H.out (Ext.refl _))
        exact ⟨rfl, TurnedR.pre T2.out X.out⟩

end
end Go.Proofs.Ytifbmapianddcaa
