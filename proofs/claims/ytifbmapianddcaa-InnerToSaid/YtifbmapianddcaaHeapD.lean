/- Walk of the heap's sink. -/
import Derived.Test.YtifbmapianddcaaHeapC
import Derived.WalkMore
namespace Go.Proofs.Ytifbmapianddcaa
open Go.RowKit

set_option maxRecDepth 100000 in
set_option maxHeartbeats 2000000 in
theorem hSink_any {w : World} {h mb : Nat} {v : Value} {l : List Thing} (H : HeapAt w h v mb l) (hl : l.length ≤ 1000000) (hr : SinkOk l 0) :
    Calls Try.prog 158 #[.pointer (some ⟨h, 0, none⟩), .int .i64 0] w fun e w' => e = .returned (.tuple #[]) ∧ Heaped w h v mb l w' := by
  obtain ⟨a, c, rfl⟩ := H.own.slice
  obtain ⟨n, hn⟩ : ∃ n, l.length = n := ⟨_, rfl⟩
  rw [hn] at H hl ⊢
  have HH := hide H
  have HR := hide hr
  have HN := hide hn
  clear H hr hn
  go_enter Try.func158, Try.ntmps158
  go_wp2
  apply wp_scope_straight
  go_wp2
  apply wp_label
  go_wp2
  go_loopw [1] (fun i wr => ∃ (k : Nat) (m : List Thing), i = .int .i64 k ∧ (k < n ∨ n = 0 ∧ k = 0) ∧ m.Perm l ∧ SinkOk m k ∧ HeapAt wr h (.slice a n c) mb m ∧ Touch (HFoot h (.slice a n c) mb) w wr) (fun i _ => n - (intOf i).toNat)
  case atStart => exact ⟨0, l, rfl, by omega, List.Perm.refl _, HR.out, HH.out, Touch.refl _ _⟩
  case round =>
    obtain ⟨k, m, rfl, hk, hp, hro, hat, ht⟩ := hrel
    have hm : m.length = n := by rw [hp.length_eq, HN.out]
    have A := hide hat
    have P := hide hp
    have R := hide hro
    have T := hide ht
    have HM := hide hm
    have zh := hat.blk.lt
    have hkb : k ≤ 1000000 := by omega
    clear hat hp hro ht hm
    go_wp2
    go_loopw [4, 5] (fun fs qs wl => ∃ f q : Nat, fs = .int .i64 f ∧ qs = .int .i64 q ∧ 2 * k + 1 ≤ q ∧ q ≤ 2 * k + 3 ∧ Least m n k f q ∧ Ext wr wl) (fun _ q _ => 2 * k + 3 - (intOf q).toNat)
    case atStart => exact ⟨k, 2 * k + 1, rfl, by go_num, by omega, by omega, least_start m n k, Ext.refl _⟩
    case round =>
      obtain ⟨f, q, rfl, rfl, hq1, hq2, hle, hx⟩ := hrel
      have HX := hide hx
      have LE := hide hle
      have A2 := hide (A.out.ext hx)
      have zr := hx.size
      have c0 : wr.cell? ⟨h, 0, none⟩ = some (.slice a n c) := A2.out.blk.cell 0
      have zh2 : h < wr.heap.size := by omega
      have hf2 : f ≤ 1000000 := by rcases hle.1 with h1 | ⟨_, _, h1⟩ <;> omega
      have hfn : q < n → f < n := by intro h0; rcases hle.1 with h1 | ⟨_, _, h1⟩ <;> omega
      clear hx hle
      by_cases hin : q ≤ 2 * k + 2 ∧ q < n
      · obtain ⟨i1, i2⟩ := hin
        have hfn := hfn i2
        obtain ⟨g, rfl⟩ : ∃ g, a = some ⟨g, 0, none⟩ := by
          rcases A2.out.own.2 with ⟨_, hn⟩ | ⟨g, cap, cur, hv, _⟩
          · have := HM.out; omega
          · exact ⟨g, by injection hv⟩
        obtain ⟨⟨a0, a1, a2, a3, a4⟩, _⟩ := thing_cells A2.out.own (i := q) (by have := HM.out; omega)
        obtain ⟨⟨b0, b1, b2, b3, b4⟩, _⟩ := thing_cells A2.out.own (i := f) (by have := HM.out; omega)
        have hg : g < wr.heap.size := A2.out.foot_lt (.inr (.inl rfl))
        have HA := hide (fun w => ahead_at (tat m q) (tat m f) w)
        obtain ⟨tq, htq⟩ : ∃ t, tat m q = t := ⟨_, rfl⟩
        obtain ⟨tf, htf⟩ : ∃ t, tat m f = t := ⟨_, rfl⟩
        have HTQ := hide htq
        have HTF := hide htf
        rw [htq] at a0 a1 a2 a3 a4 HA
        rw [htf] at b0 b1 b2 b3 b4 HA
        clear htq htf
        have j1 : (q : Int) ≤ 2 * (k : Int) + 2 := by omega
        have j2 : (q : Int) < (n : Int) := by omega
        have j3 : (f : Int) < (n : Int) := by omega
        cases hah : aheadB tq tf
        · rw [hah] at HA
          have HF := hide hah
          clear hah
          go_wp2_with fail
          go_region_held3 (fun W => (∀ b o, b < wr.heap.size → W.cell? ⟨b, o, none⟩ = wr.cell? ⟨b, o, none⟩) ∧ Ext wr W) (first | with_reducible exact pr_start _ | exact pr_of (by (with_reducible (repeat' (first | exact Ext.refl _ | assumption | refine Ext.drew ?_ | refine Ext.drewN ?_ _ | refine Ext.alloc ?_ _ | refine Ext.setCell ?_ ?_ _ | refine Ext.trans ?_ (by assumption)))); all_goals (first | (simp; done) | (simp; omega))))
            (first | (go_at_call 189; refine (HA.out _).mono ?_; rintro e w3 ⟨rfl, hb3⟩))
          rename_i hS
          have hx3 : Ext wr w3 := hS.2
          clear hS
          go_wp2
          go_roundw
          case rel => exact ⟨f, q + 1, rfl, by go_num, by omega, by omega, least_keep LE.out (by rw [HTQ.out, HTF.out]; exact HF.out), HX.out.trans hx3⟩
          case measure => simp [intOf]; omega
        · rw [hah] at HA
          have HF := hide hah
          clear hah
          go_wp2_with fail
          go_region_held3 (fun W => (∀ b o, b < wr.heap.size → W.cell? ⟨b, o, none⟩ = wr.cell? ⟨b, o, none⟩) ∧ Ext wr W) (first | with_reducible exact pr_start _ | exact pr_of (by (with_reducible (repeat' (first | exact Ext.refl _ | assumption | refine Ext.drew ?_ | refine Ext.drewN ?_ _ | refine Ext.alloc ?_ _ | refine Ext.setCell ?_ ?_ _ | refine Ext.trans ?_ (by assumption)))); all_goals (first | (simp; done) | (simp; omega))))
            (first | (go_at_call 189; refine (HA.out _).mono ?_; rintro e w3 ⟨rfl, hb3⟩))
          rename_i hS
          have hx3 : Ext wr w3 := hS.2
          clear hS
          go_wp2
          go_roundw
          case rel => exact ⟨q, q + 1, rfl, by go_num, by omega, by omega, least_turn LE.out hq1 i1 i2 (by rw [HTQ.out, HTF.out]; exact HF.out), HX.out.trans hx3⟩
          case measure => simp [intOf]; omega
      · have hex : q = 2 * k + 3 ∨ q ≤ 2 * k + 2 ∧ n ≤ q := by omega
        have HE := hide (show q = 2 * k + 3 ∨ m.length ≤ q by have := HM.out; omega)
        clear hin hfn
        rcases hex with e | ⟨e1, e2⟩
        · have g1 : decide ((q : Int) ≤ 2 * (k : Int) + 2) = false := by simp; omega
          clear e
          by_cases hf : f = k
          · subst hf
            go_wp2
            (first | rw [Exit.noGoto_normal] | rw [Exit.noGoto_exit])
            go_end0
            exact ⟨rfl, m, A2.out, T.out.trans (Touch.of_ext HX.out), P.out, least_end (by rw [HM.out]; exact LE.out) R.out HE.out⟩
          · have hfc : f < m.length ∧ k < m.length := by have := HM.out; rcases LE.out.1 with h1 | ⟨_, _, h1⟩ <;> omega
            have hne : ((f : Int) == (k : Int)) = false := by simp; omega
            have hpf : k < f := by
              rcases LE.out.1 with h1 | ⟨h1, h2, _⟩
              · exact absurd h1 hf
              · have := par_lt h2; omega
            have hsw := hide (fun (w' : World) (g : Nat) (X : HeapAt w' h (.slice (some ⟨g, 0, none⟩) n c) mb m) => swap_any (w := w') (g := g) (c := c) (l := m) (by rw [HM.out]; exact X) (i := k) (k := f) hfc.2 hfc.1 (by have := HM.out; omega))
            rw [HM.out] at hsw
            obtain ⟨g, rfl⟩ : ∃ g, a = some ⟨g, 0, none⟩ := by
              rcases A2.out.own.2 with ⟨_, hn⟩ | ⟨g, cap, cur, hv, _⟩
              · omega
              · exact ⟨g, by injection hv⟩
            have HFN := hide hf
            clear hf
            go_wp2_with (go_at_call 157; refine (hsw.out _ _ A2.out).mono ?_; rintro e w4 ⟨rfl, A4, t4⟩; have A4 := hide A4; have T4 := hide t4; clear t4)
            go_roundw
            case rel => exact ⟨f, swp m k f, rfl, by have := HM.out; omega, (swp_perm hfc.2 hfc.1).trans P.out, least_go (by rw [HM.out]; exact LE.out) R.out hfc.2 HFN.out HE.out, A4.out, T.out.trans ((Touch.of_ext HX.out).trans T4.out)⟩
            case measure => have := HM.out; simp [intOf]; omega
        · have g1 : (q : Int) ≤ 2 * (k : Int) + 2 := by omega
          have g2 : decide ((q : Int) < (n : Int)) = false := by simp; omega
          have g3 : decide (q < n) = false := by simp; omega
          clear e2
          by_cases hf : f = k
          · subst hf
            go_wp2
            (first | rw [Exit.noGoto_normal] | rw [Exit.noGoto_exit])
            go_end0
            exact ⟨rfl, m, A2.out, T.out.trans (Touch.of_ext HX.out), P.out, least_end (by rw [HM.out]; exact LE.out) R.out HE.out⟩
          · have hfc : f < m.length ∧ k < m.length := by have := HM.out; rcases LE.out.1 with h1 | ⟨_, _, h1⟩ <;> omega
            have hne : ((f : Int) == (k : Int)) = false := by simp; omega
            have hpf : k < f := by
              rcases LE.out.1 with h1 | ⟨h1, h2, _⟩
              · exact absurd h1 hf
              · have := par_lt h2; omega
            have hsw := hide (fun (w' : World) (g : Nat) (X : HeapAt w' h (.slice (some ⟨g, 0, none⟩) n c) mb m) => swap_any (w := w') (g := g) (c := c) (l := m) (by rw [HM.out]; exact X) (i := k) (k := f) hfc.2 hfc.1 (by have := HM.out; omega))
            rw [HM.out] at hsw
            obtain ⟨g, rfl⟩ : ∃ g, a = some ⟨g, 0, none⟩ := by
              rcases A2.out.own.2 with ⟨_, hn⟩ | ⟨g, cap, cur, hv, _⟩
              · omega
              · exact ⟨g, by injection hv⟩
            have HFN := hide hf
            clear hf
            go_wp2_with (go_at_call 157; refine (hsw.out _ _ A2.out).mono ?_; rintro e w4 ⟨rfl, A4, t4⟩; have A4 := hide A4; have T4 := hide t4; clear t4)
            go_roundw
            case rel => exact ⟨f, swp m k f, rfl, by have := HM.out; omega, (swp_perm hfc.2 hfc.1).trans P.out, least_go (by rw [HM.out]; exact LE.out) R.out hfc.2 HFN.out HE.out, A4.out, T.out.trans ((Touch.of_ext HX.out).trans T4.out)⟩
            case measure => have := HM.out; simp [intOf]; omega
end Go.Proofs.Ytifbmapianddcaa
