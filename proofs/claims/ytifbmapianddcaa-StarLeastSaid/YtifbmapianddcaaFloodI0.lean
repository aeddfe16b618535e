/- Rows that are read; flood.From. -/
import Derived.Test.YtifbmapianddcaaFloodE
set_option linter.all false
set_option linter.unusedVariables false
set_option linter.unusedSimpArgs false
namespace Go.Proofs.Ytifbmapianddcaa
open Go.RowKit
theorem reads_u64 {w : World} {v : Value} {l : List Int} (h : Reads u64E w v l) (h1 : 0 < l.length) : ∃ b off c, v = .slice (some ⟨b, off, none⟩) l.length c ∧ b < w.heap.size ∧ ∀ k (hk : k < l.length), w.cell? ⟨b, off + k, none⟩ = some (.int .u64 l[k]) := by
  rcases h with ⟨_, h⟩ | ⟨b, off, c, hv, hb, hc⟩
  · rw [h] at h1; simp at h1
  · refine ⟨b, off, c, hv, hb, fun k hk => ?_⟩
    have := hc k l[k] (List.getElem?_eq_getElem hk) 0 (.int .u64 l[k]) rfl
    simpa [u64E] using this
theorem reads_cell {w : World} {v : Value} {l : List Cell} (h : Reads cellE w v l) (h1 : 0 < l.length) : ∃ b off c, v = .slice (some ⟨b, off, none⟩) l.length c ∧ b < w.heap.size ∧ ∀ k p, l[k]? = some p → w.cell? ⟨b, off + k * 2, none⟩ = some (.int .i64 p.1) ∧ w.cell? ⟨b, off + k * 2 + 1, none⟩ = some (.int .i64 p.2) := by
  rcases h with ⟨_, h⟩ | ⟨b, off, c, hv, hb, hc⟩
  · rw [h] at h1; simp at h1
  · refine ⟨b, off, c, hv, hb, fun k p hk => ⟨?_, ?_⟩⟩
    · have := hc k p hk 0 (.int .i64 p.1) rfl
      simpa [cellE] using this
    · have := hc k p hk 1 (.int .i64 p.2) rfl
      rw [show off + k * 2 + 1 = off + (k * 2 + 1) by omega]
      simpa [cellE, Nat.add_assoc] using this

theorem fFrom_bad {w : World} (W H : Int) (a : Option Addr) (n c : Nat) (x y : Int) (he : lookE W H n 0 0 W H x y ≠ 0) :
    Calls Try.prog 17 #[.agg #[.int .i64 W, .int .i64 H, .slice a n c], .agg #[.int .i64 x, .int .i64 y]] w fun e w' => e = .returned (.tuple #[.slice none 0 0, .int .i64 (lookE W H n 0 0 W H x y)]) ∧ Ext w w' := by
  have HW := hide (fun (w' : World) => fWithin_bad (w := w') W H a n c 0 0 W H x y he)
  generalize lookE W H n 0 0 W H x y = le at *
  clear he
  go_enter Try.func17, Try.ntmps17
  go_wp2_with (go_at_call 64; refine (HW.out _).mono ?_; rintro e w1 ⟨rfl, hb1⟩)
  exact bodyPost_ret (v := .tuple #[.slice none 0 0, .int .i64 le]) (by simp [results, Try.results17, go_sem, *]) rfl ⟨rfl, (by (with_reducible (repeat' (first | exact Ext.refl _ | assumption | refine Ext.drew ?_ | refine Ext.drewN ?_ _ | refine Ext.alloc ?_ _ | refine Ext.setCell ?_ ?_ _ | refine Ext.trans ?_ (by assumption)))); all_goals (first | (simp; done) | (simp; omega)))⟩

theorem fFrom_ok {w : World} {W H : Int} {a : Option Addr} {l : List Int} {x y : Int} (c : Nat) (he : lookE W H l.length 0 0 W H x y = 0) (hr : Row16 w a l) (hu : U16s l) :
    Calls Try.prog 17 #[.agg #[.int .i64 W, .int .i64 H, .slice a l.length c], .agg #[.int .i64 x, .int .i64 y]] w fun e w' =>
      ∃ v far, e = .returned (.tuple #[v, .int .i64 0]) ∧ Ext w w' ∧ Own u64E w' w.heap.size 38 v (farL far l.length) ∧ IsFar (mapNet (landP_of he hu)) (idxN W (x, y)) far ∧ FarLow (mapNet (landP_of he hu)) far := by
  obtain ⟨G, hG⟩ : ∃ G, mapNet (landP_of he hu) = G := ⟨_, rfl⟩
  have HW := hide (fun (w' : World) (hx : Ext w w') => fWithin_ok c he (hr.ext hx) hu)
  rw [hG] at HW ⊢
  generalize idxN W (x, y) = s at *
  obtain ⟨n, hn⟩ : ∃ n, l.length = n := ⟨_, rfl⟩
  rw [hn] at HW ⊢
  clear hG hr hu hn he
  go_enter Try.func17, Try.ntmps17
  go_wp2_with fail
  refine (HW.out _ (by (with_reducible (repeat' (first | exact Ext.refl _ | assumption | refine Ext.drew ?_ | refine Ext.drewN ?_ _ | refine Ext.alloc ?_ _ | refine Ext.setCell ?_ ?_ _ | refine Ext.trans ?_ (by assumption)))); all_goals (first | (simp; done) | (simp; omega)))).mono ?_
  rintro e w2 ⟨v, far, rfl, hx2, hv, h1, h2⟩
  have hxx : Ext w w2 := (by (with_reducible (repeat' (first | exact Ext.refl _ | assumption | refine Ext.drew ?_ | refine Ext.drewN ?_ _ | refine Ext.alloc ?_ _ | refine Ext.setCell ?_ ?_ _ | refine Ext.trans ?_ (by assumption)))); all_goals (first | (simp; done) | (simp; omega)))
  have HV := hide (hv.lower (base' := w.heap.size) (by simp; omega))
  have H1 := hide h1
  have H2 := hide h2
  clear hv h1 h2
  go_wp2
  exact bodyPost_ret (v := .tuple #[v, .int .i64 0]) (by simp [results, Try.results17, go_sem, *]) rfl ⟨v, far, rfl, hxx, HV.out, H1.out, H2.out⟩

end Go.Proofs.Ytifbmapianddcaa
