/- The reference's desk in memory: Draw, Open, Close, Copy. -/
import Derived.Test.YtifbmapianddcaaTokR
import Derived.Test.YtifbmapianddcaaSessQ
import Derived.Deep.CutBlock
set_option linter.all false
set_option linter.unusedVariables false
set_option linter.unusedSimpArgs false
namespace Go.Proofs.Ytifbmapianddcaa
open Go.RowKit

structure RefAt (w : World) (d : Nat) (most : Int) (vr vn ve : Value) (row ever now : List Int) : Prop where
  blk : Blk w d 85 #[.int .i64 most, vr, vn, ve]
  row : RowO w vr row
  now : RowO w vn now
  ever : RowO w ve ever
  rd : vr.ownBlock ≠ some d
  nd : vn.ownBlock ≠ some d
  ed : ve.ownBlock ≠ some d
  rn : ∀ k, vr.ownBlock = some k → vn.ownBlock ≠ some k
  re : ∀ k, vr.ownBlock = some k → ve.ownBlock ≠ some k
  ne : ∀ k, vn.ownBlock = some k → ve.ownBlock ≠ some k

def FootR (d : Nat) (vr vn ve : Value) (k : Nat) : Prop := k = d ∨ vr.ownBlock = some k ∨ vn.ownBlock = some k ∨ ve.ownBlock = some k

/-- What became of a desk of the reference's behind a call. -/
def TurnedR (w : World) (d : Nat) (most : Int) (vr vn ve : Value) (row ever now : List Int) (w' : World) : Prop :=
  ∃ vr' vn' ve', RefAt w' d most vr' vn' ve' row ever now ∧ Touch (FootR d vr vn ve) w w' ∧ ∀ k, FootR d vr' vn' ve' k → FootR d vr vn ve k ∨ w.heap.size ≤ k

section
variable {w w' : World} {d : Nat} {most : Int} {vr vn ve v' : Value} {row ever now l : List Int}
theorem RefAt.touch {S : Nat → Prop} (h : RefAt w d most vr vn ve row ever now) (t : Touch S w w') (hs : ∀ k, FootR d vr vn ve k → ¬ S k) : RefAt w' d most vr vn ve row ever now :=
  ⟨h.blk.touch t (hs d (.inl rfl)), h.row.touch t (fun k hk => hs k (.inr (.inl hk))), h.now.touch t (fun k hk => hs k (.inr (.inr (.inl hk)))), h.ever.touch t (fun k hk => hs k (.inr (.inr (.inr hk)))), h.rd, h.nd, h.ed, h.rn, h.re, h.ne⟩
theorem RefAt.ext (h : RefAt w d most vr vn ve row ever now) (x : Ext w w') : RefAt w' d most vr vn ve row ever now := h.touch (Touch.of_ext (S := fun _ => False) x) (fun _ _ x => x)
theorem RefAt.lt (h : RefAt w d most vr vn ve row ever now) {k : Nat} (hk : FootR d vr vn ve k) : k < w.heap.size := by
  rcases hk with rfl | hk | hk | hk
  · exact h.blk.lt
  · exact h.row.lt hk
  · exact h.now.lt hk
  · exact h.ever.lt hk
theorem TurnedR.same (h : RefAt w d most vr vn ve row ever now) (x : Ext w w') : TurnedR w d most vr vn ve row ever now w' :=
  ⟨_, _, _, h.ext x, Touch.of_ext x, fun k hk => .inl hk⟩
/-- A new row in the first field. -/
theorem RefAt.put_row (h : RefAt w d most vr vn ve row ever now) (o : RowO w' v' l) (t : Touch (fun k => vr.ownBlock = some k) w w') (hl : ∀ k, v'.ownBlock = some k → vr.ownBlock = some k ∨ w.heap.size ≤ k) :
    RefAt (w'.setCell ⟨d, 1, none⟩ v') d most v' vn ve l ever now ∧ Touch (FootR d vr vn ve) w (w'.setCell ⟨d, 1, none⟩ v') ∧ ∀ k, FootR d v' vn ve k → FootR d vr vn ve k ∨ w.heap.size ≤ k := by
  have hd := h.blk.lt
  have hv : v'.ownBlock ≠ some d := fun e => (hl d e).elim h.rd (fun x => by omega)
  have ts : ∀ S : Nat → Prop, S d → Touch S w' (w'.setCell ⟨d, 1, none⟩ v') := fun S hS => (Touch.refl S w').setCell (.inl hS) _
  have t1 := ts (fun k => k = d) rfl
  refine ⟨⟨(h.blk.touch t h.rd).set_ 1 v', o.touch t1 (fun k hk e => by subst e; exact hv hk), (h.now.touch t (fun k hk e => h.rn k e hk)).touch t1 (fun k hk e => by subst e; exact h.nd hk), (h.ever.touch t (fun k hk e => h.re k e hk)).touch t1 (fun k hk e => by subst e; exact h.ed hk), hv, h.nd, h.ed, fun k hk e => ?_, fun k hk e => ?_, h.ne⟩, (t.mono (fun k _ hk => .inr (.inl hk))).trans (ts _ (.inl rfl)), ?_⟩
  · exact (hl k hk).elim (fun x => h.rn k x e) (fun x => by have := h.now.lt e; omega)
  · exact (hl k hk).elim (fun x => h.re k x e) (fun x => by have := h.ever.lt e; omega)
  · rintro k (hk | hk | hk | hk)
    · exact .inl (.inl hk)
    · exact (hl k hk).imp (fun x => .inr (.inl x)) id
    · exact .inl (.inr (.inr (.inl hk)))
    · exact .inl (.inr (.inr (.inr hk)))
theorem RefAt.put_now (h : RefAt w d most vr vn ve row ever now) (o : RowO w' v' l) (t : Touch (fun k => vn.ownBlock = some k) w w') (hl : ∀ k, v'.ownBlock = some k → vn.ownBlock = some k ∨ w.heap.size ≤ k) :
    RefAt (w'.setCell ⟨d, 2, none⟩ v') d most vr v' ve row ever l ∧ Touch (FootR d vr vn ve) w (w'.setCell ⟨d, 2, none⟩ v') ∧ ∀ k, FootR d vr v' ve k → FootR d vr vn ve k ∨ w.heap.size ≤ k := by
  have hd := h.blk.lt
  have hv : v'.ownBlock ≠ some d := fun e => (hl d e).elim h.nd (fun x => by omega)
  have ts : ∀ S : Nat → Prop, S d → Touch S w' (w'.setCell ⟨d, 2, none⟩ v') := fun S hS => (Touch.refl S w').setCell (.inl hS) _
  have t1 := ts (fun k => k = d) rfl
  refine ⟨⟨(h.blk.touch t h.nd).set_ 2 v', (h.row.touch t (fun k hk e => h.rn k hk e)).touch t1 (fun k hk e => by subst e; exact h.rd hk), o.touch t1 (fun k hk e => by subst e; exact hv hk), (h.ever.touch t (fun k hk e => h.ne k e hk)).touch t1 (fun k hk e => by subst e; exact h.ed hk), h.rd, hv, h.ed, fun k hk e => ?_, h.re, fun k hk e => ?_⟩, (t.mono (fun k _ hk => .inr (.inr (.inl hk)))).trans (ts _ (.inl rfl)), ?_⟩
  · exact (hl k e).elim (fun x => h.rn k hk x) (fun x => by have := h.row.lt hk; omega)
  · exact (hl k hk).elim (fun x => h.ne k x e) (fun x => by have := h.ever.lt e; omega)
  · rintro k (hk | hk | hk | hk)
    · exact .inl (.inl hk)
    · exact .inl (.inr (.inl hk))
    · exact (hl k hk).imp (fun x => .inr (.inr (.inl x))) id
    · exact .inl (.inr (.inr (.inr hk)))
theorem RefAt.put_ever (h : RefAt w d most vr vn ve row ever now) (o : RowO w' v' l) (t : Touch (fun k => ve.ownBlock = some k) w w') (hl : ∀ k, v'.ownBlock = some k → ve.ownBlock = some k ∨ w.heap.size ≤ k) :
    RefAt (w'.setCell ⟨d, 3, none⟩ v') d most vr vn v' row l now ∧ Touch (FootR d vr vn ve) w (w'.setCell ⟨d, 3, none⟩ v') ∧ ∀ k, FootR d vr vn v' k → FootR d vr vn ve k ∨ w.heap.size ≤ k := by
  have hd := h.blk.lt
  have hv : v'.ownBlock ≠ some d := fun e => (hl d e).elim h.ed (fun x => by omega)
  have ts : ∀ S : Nat → Prop, S d → Touch S w' (w'.setCell ⟨d, 3, none⟩ v') := fun S hS => (Touch.refl S w').setCell (.inl hS) _
  have t1 := ts (fun k => k = d) rfl
  refine ⟨⟨(h.blk.touch t h.ed).set_ 3 v', (h.row.touch t (fun k hk e => h.re k hk e)).touch t1 (fun k hk e => by subst e; exact h.rd hk), (h.now.touch t (fun k hk e => h.ne k hk e)).touch t1 (fun k hk e => by subst e; exact h.nd hk), o.touch t1 (fun k hk e => by subst e; exact hv hk), h.rd, h.nd, hv, h.rn, fun k hk e => ?_, fun k hk e => ?_⟩, (t.mono (fun k _ hk => .inr (.inr (.inr hk)))).trans (ts _ (.inl rfl)), ?_⟩
  · exact (hl k e).elim (fun x => h.re k hk x) (fun x => by have := h.row.lt hk; omega)
  · exact (hl k e).elim (fun x => h.ne k hk x) (fun x => by have := h.now.lt hk; omega)
  · rintro k (hk | hk | hk | hk)
    · exact .inl (.inl hk)
    · exact .inl (.inr (.inl hk))
    · exact .inl (.inr (.inr (.inl hk)))
    · exact (hl k hk).imp (fun x => .inr (.inr (.inr x))) id
theorem TurnedR.trans {vr1 vn1 ve1 : Value} {row1 ever1 now1 : List Int} {w1 : World} (h : RefAt w1 d most vr1 vn1 ve1 row1 ever1 now1 ∧ Touch (FootR d vr vn ve) w w1 ∧ ∀ k, FootR d vr1 vn1 ve1 k → FootR d vr vn ve k ∨ w.heap.size ≤ k) (T : TurnedR w1 d most vr1 vn1 ve1 row ever now w') : TurnedR w d most vr vn ve row ever now w' := by
  obtain ⟨vr', vn', ve', R, t, f⟩ := T
  have hz := h.2.1.size
  refine ⟨vr', vn', ve', R, ?_, fun k hk => ?_⟩
  · exact h.2.1.past t (fun k hk hf => (h.2.2 k hf).elim id (fun x => by omega))
  · rcases f k hk with h1 | h1
    · exact h.2.2 k h1
    · exact .inr (by omega)

theorem rkDraw_full (h : RefAt w d most vr vn ve row ever now) (hf : (1024 : Int) ≤ (row.length : Int)) (x : Int) : Calls Try.prog 41 #[.pointer (some ⟨d, 0, none⟩), .int .u64 x] w fun r w' => r = .returned (.int .i64 16) ∧ TurnedR w d most vr vn ve row ever now w' := by
  have T := hide (TurnedR.same h (Ext.refl w))
  obtain ⟨a, c, rfl⟩ := h.row.slice
  have c1 : w.cell? ⟨d, 1, none⟩ = some (.slice a row.length c) := h.blk.cell 1
  clear h
  go_enter Try.func41, Try.ntmps41
  go_wp2
  go_ret
  exact ⟨rfl, T.out⟩

set_option maxRecDepth 100000 in
theorem rkDraw_ok (h : RefAt w d most vr vn ve row ever now) (hf : (row.length : Int) < 1024) (x : Int) : Calls Try.prog 41 #[.pointer (some ⟨d, 0, none⟩), .int .u64 x] w fun r w' => r = .returned (.int .i64 0) ∧ TurnedR w d most vr vn ve (row ++ [x]) ever now w' := by
  obtain ⟨a, c, rfl⟩ := h.row.slice
  have c1 : w.cell? ⟨d, 1, none⟩ = some (.slice a row.length c) := h.blk.cell 1
  have H := hide h
  have hlt := h.blk.lt
  clear h
  go_enter Try.func41, Try.ntmps41
  go_wp2_with (at_builtin; refine wpList_app_o rfl _ _ rfl _ _ row rfl H.out.row x _ _ rfl _ rfl rfl (by omega) ?_; intro v9 w9 o9 t9 l9; have b9 := H.out.blk.touch t9 H.out.rd; have d9 : w9.cell? ⟨d, 1, none⟩ = some (.slice a row.length c) := b9.cell 1; have f9 : w9.frozen? ⟨d, 1, none⟩ = false := b9.frozen 1; obtain ⟨a9, c9, rfl⟩ := o9.slice; have O9 := hide o9; have T9 := hide t9; have L9 := hide l9; clear o9 t9 l9 b9)
  go_ret
  obtain ⟨R, t, f⟩ := H.out.put_row O9.out T9.out L9.out
  rw [show (row ++ [x]).length = row.length + 1 by simp] at R t f
  exact ⟨rfl, _, _, _, R, t, f⟩

theorem rkOpen_full (h : RefAt w d most vr vn ve row ever now) (hf : most ≤ (now.length : Int)) : Calls Try.prog 43 #[.pointer (some ⟨d, 0, none⟩)] w fun r w' => r = .returned (.tuple #[.int .u64 0, .int .i64 16]) ∧ TurnedR w d most vr vn ve row ever now w' := by
  have H := hide h
  obtain ⟨a, c, rfl⟩ := h.now.slice
  have c0 : w.cell? ⟨d, 0, none⟩ = some (.int .i64 most) := h.blk.cell 0
  have c2 : w.cell? ⟨d, 2, none⟩ = some (.slice a now.length c) := h.blk.cell 2
  clear h
  go_enter Try.func43, Try.ntmps43
  go_wp2_with fail
  go_quiet (fail)
  go_wp2
  go_ret2
  exact ⟨rfl, TurnedR.same H.out ((Ext.refl w).drewN _)⟩

theorem rkOpen_none (h : RefAt w d most vr vn ve [] ever now) (hf : (now.length : Int) < most) : Calls Try.prog 43 #[.pointer (some ⟨d, 0, none⟩)] w fun r w' => r = .returned (.tuple #[.int .u64 0, .int .i64 14]) ∧ TurnedR w d most vr vn ve [] ever now w' := by
  have H := hide h
  obtain ⟨a, c, rfl⟩ := h.now.slice
  obtain ⟨a1, c1, rfl⟩ := h.row.slice
  have d0 : w.cell? ⟨d, 0, none⟩ = some (.int .i64 most) := h.blk.cell 0
  have d1 : w.cell? ⟨d, 1, none⟩ = some (.slice a1 0 c1) := h.blk.cell 1
  have d2 : w.cell? ⟨d, 2, none⟩ = some (.slice a now.length c) := h.blk.cell 2
  clear h
  go_enter Try.func43, Try.ntmps43
  go_wp2_with fail
  go_quiet (fail)
  go_wp2
  go_ret2
  exact ⟨rfl, TurnedR.same H.out ((Ext.refl w).drewN _)⟩

theorem RefAt.put_row' (h : RefAt w d most vr vn ve row ever now) (o : RowO w' v' l) (t : Touch (fun k => vr.ownBlock = some k) w w') (hl : ∀ k, v'.ownBlock = some k → vr.ownBlock = some k ∨ w.heap.size ≤ k) :
    ∃ w3, w'.setCell ⟨d, 1, none⟩ v' = w3 ∧ Hid (RefAt w3 d most v' vn ve l ever now ∧ Touch (FootR d vr vn ve) w w3 ∧ ∀ k, FootR d v' vn ve k → FootR d vr vn ve k ∨ w.heap.size ≤ k) := ⟨_, rfl, h.put_row o t hl⟩
theorem RefAt.put_now' (h : RefAt w d most vr vn ve row ever now) (o : RowO w' v' l) (t : Touch (fun k => vn.ownBlock = some k) w w') (hl : ∀ k, v'.ownBlock = some k → vn.ownBlock = some k ∨ w.heap.size ≤ k) :
    ∃ w3, w'.setCell ⟨d, 2, none⟩ v' = w3 ∧ Hid (RefAt w3 d most vr v' ve row ever l ∧ Touch (FootR d vr vn ve) w w3 ∧ ∀ k, FootR d vr v' ve k → FootR d vr vn ve k ∨ w.heap.size ≤ k) := ⟨_, rfl, h.put_now o t hl⟩
theorem RefAt.put_ever' (h : RefAt w d most vr vn ve row ever now) (o : RowO w' v' l) (t : Touch (fun k => ve.ownBlock = some k) w w') (hl : ∀ k, v'.ownBlock = some k → ve.ownBlock = some k ∨ w.heap.size ≤ k) :
    ∃ w3, w'.setCell ⟨d, 3, none⟩ v' = w3 ∧ Hid (RefAt w3 d most vr vn v' row l now ∧ Touch (FootR d vr vn ve) w w3 ∧ ∀ k, FootR d vr vn v' k → FootR d vr vn ve k ∨ w.heap.size ≤ k) := ⟨_, rfl, h.put_ever o t hl⟩
theorem TurnedR.pre {w1 : World} (T : TurnedR w' d most vr vn ve row ever now w1) (x : Ext w w') : TurnedR w d most vr vn ve row ever now w1 := by
  obtain ⟨a, b, c, R, t, f⟩ := T
  exact ⟨a, b, c, R, (Touch.of_ext x).trans t, fun k hk => (f k hk).imp id (fun h => Nat.le_trans x.size h)⟩

set_option maxRecDepth 100000 in
theorem rkOpen_retry {t : Int} {r : List Int} (h : RefAt w d most vr vn ve (t :: r) ever now) (hf : (now.length : Int) < most) (hle : ever.length ≤ 1000000) (ht : t ∈ ever ∨ t = 0) : Calls Try.prog 43 #[.pointer (some ⟨d, 0, none⟩)] w fun x w' => x = .returned (.tuple #[.int .u64 0, .int .i64 20]) ∧ TurnedR w d most vr vn ve r ever now w' := by
  have H := hide h
  have HT := hide ht
  clear ht
  obtain ⟨a, c, rfl⟩ := h.now.slice
  obtain ⟨g, off, cap, rfl, hg, hc, hcap⟩ := h.row.cons
  rcases h.row.rest with ⟨rfl, rfl, o⟩ | ⟨hcp, o⟩
  all_goals
    have O := hide o
    have d0 : w.cell? ⟨d, 0, none⟩ = some (.int .i64 most) := h.blk.cell 0
    have d2 : w.cell? ⟨d, 2, none⟩ = some (.slice a now.length c) := h.blk.cell 2
    clear h o
    go_enter Try.func43, Try.ntmps43
    go_wp2_with fail
    go_quiet (fail)
    obtain ⟨w1, hw1⟩ : ∃ w1, w1 = w.drewN nq := ⟨_, rfl⟩
    rw [← hw1]
    have hx1 : Ext w w1 := by rw [hw1]; exact (Ext.refl w).drewN _
    have X1 := hide hx1
    have d1 := (H.out.ext hx1).blk.cell 1
    have f1 := (H.out.ext hx1).blk.frozen 1
    have e1 := (hx1.cell (p := ⟨g, off, none⟩) hg).trans hc
    clear d0 d2 hc hw1 hx1
    go_upto_region 7 with (fail)
    obtain ⟨w3, hw3, R3⟩ := (H.out.ext X1.out).put_row' (O.out.ext X1.out) (Touch.refl _ _) (fun k hk => .inl hk)
    rw [hw3]
    clear hw3 d1 f1 e1 O
    obtain ⟨ae, ce, rfl⟩ := R3.out.1.ever.slice
    have k3 : w3.cell? ⟨d, 3, none⟩ = some (.slice ae ever.length ce) := R3.out.1.blk.cell 3
    have HE := hide R3.out.1.ever.reads
    by_cases t0 : t = 0
    · subst t0
      go_wp2
      go_ret2
      exact ⟨rfl, TurnedR.pre ⟨_, _, _, R3.out⟩ X1.out⟩
    · have t0' : (t == 0) = false := by simpa using t0
      obtain ⟨k, hk, _⟩ := findI_yes (HT.out.resolve_right t0)
      have HK := hide hk
      clear hk t0
      go_wp2_with (go_at_call 47; refine (rkFind_any t _ _ _ hle HE.out).mono ?_; rintro x9 w9 ⟨rfl, rfl⟩; rw [HK.out])
      go_ret2
      exact ⟨rfl, TurnedR.pre ⟨_, _, _, R3.out⟩ X1.out⟩

set_option maxRecDepth 100000 in
theorem rkOpen_ok {t : Int} {r : List Int} (h : RefAt w d most vr vn ve (t :: r) ever now) (hf : (now.length : Int) < most) (hle : ever.length ≤ 1000000) (hln : now.length ≤ 1000000) (ht : t ∉ ever) (t0 : (t == 0) = false) : Calls Try.prog 43 #[.pointer (some ⟨d, 0, none⟩)] w fun x w' => x = .returned (.tuple #[.int .u64 t, .int .i64 0]) ∧ TurnedR w d most vr vn ve r (ever ++ [t]) (now ++ [t]) w' := by
  have H := hide h
  have HK := hide (findI_no ht)
  clear ht
  obtain ⟨a, c, rfl⟩ := h.now.slice
  obtain ⟨g, off, cap, rfl, hg, hc, hcap⟩ := h.row.cons
  rcases h.row.rest with ⟨rfl, rfl, o⟩ | ⟨hcp, o⟩
  all_goals
    have O := hide o
    have d0 : w.cell? ⟨d, 0, none⟩ = some (.int .i64 most) := h.blk.cell 0
    have d2 : w.cell? ⟨d, 2, none⟩ = some (.slice a now.length c) := h.blk.cell 2
    clear h o
    go_enter Try.func43, Try.ntmps43
    go_wp2_with fail
    go_quiet (fail)
    obtain ⟨w1, hw1⟩ : ∃ w1, w1 = w.drewN nq := ⟨_, rfl⟩
    rw [← hw1]
    have hx1 : Ext w w1 := by rw [hw1]; exact (Ext.refl w).drewN _
    have X1 := hide hx1
    have d1 := (H.out.ext hx1).blk.cell 1
    have f1 := (H.out.ext hx1).blk.frozen 1
    have e1 := (hx1.cell (p := ⟨g, off, none⟩) hg).trans hc
    clear d0 d2 hc hw1 hx1
    go_upto_region 7 with (fail)
    obtain ⟨w3, hw3, R3⟩ := (H.out.ext X1.out).put_row' (O.out.ext X1.out) (Touch.refl _ _) (fun k hk => .inl hk)
    rw [hw3]
    clear hw3 d1 f1 e1 O
    obtain ⟨ae, ce, rfl⟩ := R3.out.1.ever.slice
    have k2 : w3.cell? ⟨d, 2, none⟩ = some (.slice a now.length c) := R3.out.1.blk.cell 2
    have k3 : w3.cell? ⟨d, 3, none⟩ = some (.slice ae ever.length ce) := R3.out.1.blk.cell 3
    have HE := hide R3.out.1.ever.reads
    have hz3 := R3.out.1.blk.lt
    go_upto_region 10 with (first
      | (go_at_call 47; refine (rkFind_any t _ _ _ hle HE.out).mono ?_; rintro x9 w9 ⟨rfl, rfl⟩; rw [HK.out])
      | (at_builtin; refine wpList_app_o rfl _ _ rfl _ _ now rfl R3.out.1.now t _ _ rfl _ rfl rfl (by omega) ?_; intro v9 w9 o9 t9 l9; have b9 := R3.out.1.blk.touch t9 R3.out.1.nd; have d9 : w9.cell? ⟨d, 2, none⟩ = some (.slice a now.length c) := b9.cell 2; have f9 : w9.frozen? ⟨d, 2, none⟩ = false := b9.frozen 2; obtain ⟨a9, c9, rfl⟩ := o9.slice; have O9 := hide o9; have T9 := hide t9; have L9 := hide l9; clear o9 t9 l9 b9))
    have P4 := hide (R3.out.1.put_now O9.out T9.out L9.out)
    rw [show (now ++ [t]).length = now.length + 1 by simp] at P4
    obtain ⟨w4, hw4⟩ : ∃ w4, w9.setCell ⟨d, 2, none⟩ (.slice a9 (now.length + 1) c9) = w4 := ⟨_, rfl⟩
    rw [hw4] at P4 ⊢
    clear hw4 d9 f9 O9 T9 L9 k2 k3 HE hz3
    have k3 : w4.cell? ⟨d, 3, none⟩ = some (.slice ae ever.length ce) := P4.out.1.blk.cell 3
    have hz4 := P4.out.1.blk.lt
    go_wp2_with (at_builtin; refine wpList_app_o rfl _ _ rfl _ _ ever rfl P4.out.1.ever t _ _ rfl _ rfl rfl (by omega) ?_; intro v9 w9 o9 t9 l9; have b9 := P4.out.1.blk.touch t9 P4.out.1.ed; have d9 : w9.cell? ⟨d, 3, none⟩ = some (.slice ae ever.length ce) := b9.cell 3; have f9 : w9.frozen? ⟨d, 3, none⟩ = false := b9.frozen 3; obtain ⟨a5, c5, rfl⟩ := o9.slice; have O9 := hide o9; have T9 := hide t9; have L9 := hide l9; clear o9 t9 l9 b9)
    have P5 := hide (P4.out.1.put_ever O9.out T9.out L9.out)
    rw [show (ever ++ [t]).length = ever.length + 1 by simp] at P5
    go_ret2
    exact ⟨rfl, TurnedR.pre (TurnedR.trans R3.out (TurnedR.trans P4.out ⟨_, _, _, P5.out⟩)) X1.out⟩
end
end Go.Proofs.Ytifbmapianddcaa
