/- What the laws on floods share: small, same, cells, From, awake. -/
import Derived.Test.YtkonojjillcfiaaFloodH
namespace Go.Proofs.Ytkonojjillcfiaa
open Go.RowKit

theorem small08_any (W H : Int) (a : Option Addr) (n c : Nat) (w : World) : Calls Try.prog 33 #[.agg #[.int .i64 W, .int .i64 H, .slice a n c]] w fun e w' => e = .returned (.bool (decide ((n : Int) ≤ 150))) ∧ Ext w w' := by
  go_enter Try.func33, Try.ntmps33
  go_wp2
  go_ret
  exact ⟨rfl, (by (with_reducible (repeat' (first | exact Ext.refl _ | assumption | refine Ext.drew ?_ | refine Ext.drewN ?_ _ | refine Ext.alloc ?_ _ | refine Ext.setCell ?_ ?_ _ | refine Ext.trans ?_ (by assumption)))); all_goals (first | (simp; done) | (simp; omega)))⟩

theorem reads_u64 {w : World} {v : Value} {l : List Int} (h : Reads u64E w v l) (h1 : 0 < l.length) : ∃ b off c, v = .slice (some ⟨b, off, none⟩) l.length c ∧ b < w.heap.size ∧ ∀ k (hk : k < l.length), w.cell? ⟨b, off + k, none⟩ = some (.int .u64 l[k]) := by
  rcases h with ⟨_, h⟩ | ⟨b, off, c, hv, hb, hc⟩
  · rw [h] at h1; simp at h1
  · refine ⟨b, off, c, hv, hb, fun k hk => ?_⟩
    have := hc k l[k] (List.getElem?_eq_getElem hk) 0 (.int .u64 l[k]) rfl
    simpa [u64E] using this
theorem reads_cell {w : World} {v : Value} {l : List Cell} (h : Reads cellE w v l) (h1 : 0 < l.length) : ∃ b off c, v = .slice (some ⟨b, off, none⟩) l.length c ∧ b < w.heap.size ∧ ∀ k p, l[k]? = some p → w.cell? ⟨b, off + k * 2, none⟩ = some (.int .i64 p.1) ∧ w.cell? ⟨b, off + k * 2 + 1, none⟩ = some (.int .i64 p.2) := by
  rcases h with ⟨_, h⟩ | ⟨b, off, c, hv, hb, hc⟩
  · rw [h] at h1; simp at h1
  · refine ⟨b, off, c, hv, hb, fun k p hk => ⟨?_, ?_⟩⟩
    · have := hc k p hk 0 (.int .i64 p.1) rfl
      simpa [cellE] using this
    · have := hc k p hk 1 (.int .i64 p.2) rfl
      rw [show off + k * 2 + 1 = off + (k * 2 + 1) by omega]
      simpa [cellE, Nat.add_assoc] using this

set_option maxHeartbeats 400000 in
theorem same08_any {w : World} {va vb : Value} {l : List Int} (hl : l.length ≤ 1000000) (h0 : 0 < l.length) (ha : Reads u64E w va l) (hb : Reads u64E w vb l) :
    Calls Try.prog 37 #[va, vb] w fun e w' => e = .returned (.bool true) ∧ Ext w w' := by
  obtain ⟨b, off, c, rfl, hb1, h1⟩ := reads_u64 ha h0
  obtain ⟨b', off', c', rfl, hb2, h2⟩ := reads_u64 hb h0
  have H1 := hide h1
  have H2 := hide h2
  clear h1 h2 ha hb
  go_enter Try.func37, Try.ntmps37
  go_wp2
  go_loopw [5] (fun i wr => ∃ k : Nat, k ≤ l.length ∧ i = .int .i64 k ∧ Ext w wr) (fun i _ => l.length - (intOf i).toNat)
  case atStart => exact ⟨0, Nat.zero_le _, rfl, (by (with_reducible (repeat' (first | exact Ext.refl _ | assumption | refine Ext.drew ?_ | refine Ext.drewN ?_ _ | refine Ext.alloc ?_ _ | refine Ext.setCell ?_ ?_ _ | refine Ext.trans ?_ (by assumption)))); all_goals (first | (simp; done) | (simp; omega)))⟩
  case round =>
    obtain ⟨k, hk, rfl, hext⟩ := hrel
    by_cases hlt : k < l.length
    · have d1 := (hext.cell (p := ⟨b, off + k, none⟩) hb1).trans (H1.out k hlt)
      have d2 := (hext.cell (p := ⟨b', off' + k, none⟩) hb2).trans (H2.out k hlt)
      generalize l[k] = p at *
      go_wp2
      go_quiet (fail)
      go_wp2
      go_roundw
      case rel => exact ⟨k + 1, by omega, by go_num, (by (with_reducible (repeat' (first | exact Ext.refl _ | assumption | refine Ext.drew ?_ | refine Ext.drewN ?_ _ | refine Ext.alloc ?_ _ | refine Ext.setCell ?_ ?_ _ | refine Ext.trans ?_ (by assumption)))); all_goals (first | (simp; done) | (simp; omega)))⟩
      case measure => simp [intOf]; omega
    · go_wp2
      go_ret
      exact ⟨rfl, (by (with_reducible (repeat' (first | exact Ext.refl _ | assumption | refine Ext.drew ?_ | refine Ext.drewN ?_ _ | refine Ext.alloc ?_ _ | refine Ext.setCell ?_ ?_ _ | refine Ext.trans ?_ (by assumption)))); all_goals (first | (simp; done) | (simp; omega)))⟩

set_option maxHeartbeats 400000 in
theorem cells08_any {w : World} {va vb : Value} {l : List Cell} (hl : l.length ≤ 1000000) (h0 : 0 < l.length) (ha : Reads cellE w va l) (hb : Reads cellE w vb l) :
    Calls Try.prog 42 #[va, vb] w fun e w' => e = .returned (.bool true) ∧ Ext w w' := by
  obtain ⟨b, off, c, rfl, hb1, h1⟩ := reads_cell ha h0
  obtain ⟨b', off', c', rfl, hb2, h2⟩ := reads_cell hb h0
  have H1 := hide h1
  have H2 := hide h2
  clear h1 h2 ha hb
  go_enter Try.func42, Try.ntmps42
  go_wp2
  go_loopw [5] (fun i wr => ∃ k : Nat, k ≤ l.length ∧ i = .int .i64 k ∧ Ext w wr) (fun i _ => l.length - (intOf i).toNat)
  case atStart => exact ⟨0, Nat.zero_le _, rfl, (by (with_reducible (repeat' (first | exact Ext.refl _ | assumption | refine Ext.drew ?_ | refine Ext.drewN ?_ _ | refine Ext.alloc ?_ _ | refine Ext.setCell ?_ ?_ _ | refine Ext.trans ?_ (by assumption)))); all_goals (first | (simp; done) | (simp; omega)))⟩
  case round =>
    obtain ⟨k, hk, rfl, hext⟩ := hrel
    by_cases hlt : k < l.length
    · obtain ⟨p, hp⟩ : ∃ p, l[k]? = some p := ⟨_, List.getElem?_eq_getElem hlt⟩
      have d1 := (hext.cell (p := ⟨b, off + k * 2, none⟩) hb1).trans (H1.out k p hp).1
      have d2 := (hext.cell (p := ⟨b, off + k * 2 + 1, none⟩) hb1).trans (H1.out k p hp).2
      have d3 := (hext.cell (p := ⟨b', off' + k * 2, none⟩) hb2).trans (H2.out k p hp).1
      have d4 := (hext.cell (p := ⟨b', off' + k * 2 + 1, none⟩) hb2).trans (H2.out k p hp).2
      have hq1 : ∀ w, (Op.equalIn 10000 49 (.agg #[.int .i64 p.1, .int .i64 p.2]) (.agg #[.int .i64 p.1, .int .i64 p.2])).run Try.prog w = .ok true w := fun w => by rw [eq_cell p p w]; simp [cellB]
      clear hp
      go_wp2
      go_quiet (fail)
      go_wp2
      go_roundw
      case rel => exact ⟨k + 1, by omega, by go_num, (by (with_reducible (repeat' (first | exact Ext.refl _ | assumption | refine Ext.drew ?_ | refine Ext.drewN ?_ _ | refine Ext.alloc ?_ _ | refine Ext.setCell ?_ ?_ _ | refine Ext.trans ?_ (by assumption)))); all_goals (first | (simp; done) | (simp; omega)))⟩
      case measure => simp [intOf]; omega
    · go_wp2
      go_ret
      exact ⟨rfl, (by (with_reducible (repeat' (first | exact Ext.refl _ | assumption | refine Ext.drew ?_ | refine Ext.drewN ?_ _ | refine Ext.alloc ?_ _ | refine Ext.setCell ?_ ?_ _ | refine Ext.trans ?_ (by assumption)))); all_goals (first | (simp; done) | (simp; omega)))⟩

theorem fFrom_bad {w : World} (W H : Int) (a : Option Addr) (n c : Nat) (x y : Int) (he : lookE W H n 0 0 W H x y ≠ 0) :
    Calls Try.prog 39 #[.agg #[.int .i64 W, .int .i64 H, .slice a n c], .agg #[.int .i64 x, .int .i64 y]] w fun e w' => e = .returned (.tuple #[.slice none 0 0, .int .i64 (lookE W H n 0 0 W H x y)]) ∧ Ext w w' := by
  have HW := hide (fun (w' : World) => fWithin_bad (w := w') W H a n c 0 0 W H x y he)
  generalize lookE W H n 0 0 W H x y = le at *
  clear he
  go_enter Try.func39, Try.ntmps39
  go_wp2_with (go_at_call 35; refine (HW.out _).mono ?_; rintro e w1 ⟨rfl, hb1⟩)
  exact bodyPost_ret (v := .tuple #[.slice none 0 0, .int .i64 le]) (by simp [results, Try.results39, go_sem, *]) rfl ⟨rfl, (by (with_reducible (repeat' (first | exact Ext.refl _ | assumption | refine Ext.drew ?_ | refine Ext.drewN ?_ _ | refine Ext.alloc ?_ _ | refine Ext.setCell ?_ ?_ _ | refine Ext.trans ?_ (by assumption)))); all_goals (first | (simp; done) | (simp; omega)))⟩

theorem fFrom_ok {w : World} {W H : Int} {a : Option Addr} {l : List Int} {x y : Int} (c : Nat) (he : lookE W H l.length 0 0 W H x y = 0) (hr : Row16 w a l) (hu : U16s l) :
    Calls Try.prog 39 #[.agg #[.int .i64 W, .int .i64 H, .slice a l.length c], .agg #[.int .i64 x, .int .i64 y]] w fun e w' =>
      ∃ v far, e = .returned (.tuple #[v, .int .i64 0]) ∧ Ext w w' ∧ Own u64E w' w.heap.size 53 v (farL far l.length) ∧ IsFar (mapNet (landP_of he hu)) (idxN W (x, y)) far ∧ FarLow (mapNet (landP_of he hu)) far := by
  obtain ⟨G, hG⟩ : ∃ G, mapNet (landP_of he hu) = G := ⟨_, rfl⟩
  have HW := hide (fun (w' : World) (hx : Ext w w') => fWithin_ok c he (hr.ext hx) hu)
  rw [hG] at HW ⊢
  generalize idxN W (x, y) = s at *
  obtain ⟨n, hn⟩ : ∃ n, l.length = n := ⟨_, rfl⟩
  rw [hn] at HW ⊢
  clear hG hr hu hn he
  go_enter Try.func39, Try.ntmps39
  go_wp2_with fail
  refine (HW.out _ (by (with_reducible (repeat' (first | exact Ext.refl _ | assumption | refine Ext.drew ?_ | refine Ext.drewN ?_ _ | refine Ext.alloc ?_ _ | refine Ext.setCell ?_ ?_ _ | refine Ext.trans ?_ (by assumption)))); all_goals (first | (simp; done) | (simp; omega)))).mono ?_
  rintro e w2 ⟨v, far, rfl, hx2, hv, h1, h2⟩
  have hxx : Ext w w2 := (by (with_reducible (repeat' (first | exact Ext.refl _ | assumption | refine Ext.drew ?_ | refine Ext.drewN ?_ _ | refine Ext.alloc ?_ _ | refine Ext.setCell ?_ ?_ _ | refine Ext.trans ?_ (by assumption)))); all_goals (first | (simp; done) | (simp; omega)))
  have HV := hide (hv.lower (base' := w.heap.size) (by simp; omega))
  have H1 := hide h1
  have H2 := hide h2
  clear hv h1 h2
  go_wp2
  exact bodyPost_ret (v := .tuple #[v, .int .i64 0]) (by simp [results, Try.results39, go_sem, *]) rfl ⟨v, far, rfl, hxx, HV.out, H1.out, H2.out⟩
end Go.Proofs.Ytkonojjillcfiaa
