/- Walks of the heap's rise and sink. -/
import Derived.Test.YtifbmapianddcaaHeapB
import Derived.WalkMore
namespace Go.Proofs.Ytifbmapianddcaa
open Go.RowKit

/-- What a heap became. -/
def Heaped (w : World) (h : Nat) (v : Value) (mb : Nat) (l : List Thing) (w' : World) : Prop :=
  ∃ l', HeapAt w' h v mb l' ∧ Touch (HFoot h v mb) w w' ∧ l'.Perm l ∧ HeapOk l'

theorem ahead_at (a b : Thing) (w : World) : Calls Try.prog 189 #[.agg #[.int .i64 a.1, .int .u64 a.2.1.1, .int .u64 a.2.1.2, .int .i64 a.2.2.1, .int .i64 a.2.2.2], .agg #[.int .i64 b.1, .int .u64 b.2.1.1, .int .u64 b.2.1.2, .int .i64 b.2.2.1, .int .i64 b.2.2.2]] w fun e w' => e = .returned (.bool (aheadB a b)) ∧ Ext w w' := ahead_any a b w

theorem par_q {k : Nat} (h : 0 < k) (hk : k ≤ 1000000) : IntKind.i64.wrap (((k : Int) - 1).tdiv 2) = ((par k : Nat) : Int) := by
  rw [tdiv_in (by omega) (by omega) (by omega)]
  unfold par
  omega

set_option maxRecDepth 100000 in
set_option maxHeartbeats 4000000 in
theorem hRise_any {w : World} {h mb i : Nat} {v : Value} {l : List Thing} (H : HeapAt w h v mb l) (hi : i < l.length) (hl : l.length ≤ 1000000) (hr : RiseOk l i) :
    Calls Try.prog 154 #[.pointer (some ⟨h, 0, none⟩), .int .i64 i] w fun e w' => e = .returned (.tuple #[]) ∧ Heaped w h v mb l w' := by
  obtain ⟨g, c, rfl, _, _⟩ : ∃ g c, v = .slice (some ⟨g, 0, none⟩) l.length c ∧ 0 ≤ g ∧ g < w.heap.size := by
    rcases H.own.2 with ⟨_, hn⟩ | ⟨g, cap, cur, hv, hb, hg, _⟩
    · omega
    · exact ⟨g, cap, hv, hb, lt_of_block hg⟩
  obtain ⟨n, hn⟩ : ∃ n, l.length = n := ⟨_, rfl⟩
  rw [hn] at H hl ⊢
  have HH := hide H
  have HR := hide hr
  have HN := hide hn
  have HI := hide hi
  clear H hr hn hi
  go_enter Try.func154, Try.ntmps154
  go_wp2
  go_loopw [1] (fun i wr => ∃ (k : Nat) (m : List Thing), i = .int .i64 k ∧ k < n ∧ m.Perm l ∧ RiseOk m k ∧ HeapAt wr h (.slice (some ⟨g, 0, none⟩) n c) mb m ∧ Touch (HFoot h (.slice (some ⟨g, 0, none⟩) n c) mb) w wr) (fun i _ => (intOf i).toNat)
  case atStart => exact ⟨i, l, rfl, by have := HI.out; have := HN.out; omega, List.Perm.refl _, HR.out, HH.out, Touch.refl _ _⟩
  case round =>
    obtain ⟨k, m, rfl, hk, hp, hro, hat, ht⟩ := hrel
    have hm : m.length = n := by rw [hp.length_eq, HN.out]
    have A := hide hat
    have P := hide hp
    have R := hide hro
    have T := hide ht
    have HM := hide hm
    have c0 : wr.cell? ⟨h, 0, none⟩ = some (.slice (some ⟨g, 0, none⟩) n c) := hat.blk.cell 0
    have zh := hat.blk.lt
    have hkm : k < m.length := by omega
    obtain ⟨⟨a0, a1, a2, a3, a4⟩, _⟩ := thing_cells hat.own hkm
    by_cases h0 : k = 0
    · subst h0
      have hd : decide ((0 : Int) < ((0 : Nat) : Int)) = false := by simp
      clear hat hp hro ht hm hkm a0 a1 a2 a3 a4
      go_wp2_with fail
      go_quiet (fail)
      go_wp2
      go_end0
      exact ⟨rfl, m, A.out.ext (by (with_reducible (repeat' (first | exact Ext.refl _ | assumption | refine Ext.drew ?_ | refine Ext.drewN ?_ _ | refine Ext.alloc ?_ _ | refine Ext.setCell ?_ ?_ _ | refine Ext.trans ?_ (by assumption)))); all_goals (first | (simp; done) | (simp; omega))), T.out.trans (Touch.of_ext (by (with_reducible (repeat' (first | exact Ext.refl _ | assumption | refine Ext.drew ?_ | refine Ext.drewN ?_ _ | refine Ext.alloc ?_ _ | refine Ext.setCell ?_ ?_ _ | refine Ext.trans ?_ (by assumption)))); all_goals (first | (simp; done) | (simp; omega)))), P.out, rise_end R.out (.inl rfl)⟩
    · have hpos : (0 : Int) < (k : Int) := by omega
      have hw1 : IntKind.i64.wrap ((k : Int) - 1) = (k : Int) - 1 := IntWalk.i64_in _ (by omega)
      have hd2 : decide (0 < k) = true := by simp; omega
      have hq := par_q (k := k) (by omega) (by omega)
      have hpl : par k < k := par_lt (by omega)
      obtain ⟨⟨b0, b1, b2, b3, b4⟩, _⟩ := thing_cells hat.own (i := par k) (by omega)
      have hk' : (k : Int) < (n : Int) := by omega
      have hpn : ((par k : Nat) : Int) < (n : Int) := by omega
      have hp0 : (0 : Int) ≤ ((par k : Nat) : Int) := by omega
      have HA := hide (fun w => ahead_at (tat m k) (tat m (par k)) w)
      have hsw := hide (fun (w' : World) (X : HeapAt w' h (.slice (some ⟨g, 0, none⟩) n c) mb m) => swap_any (w := w') (g := g) (c := c) (l := m) (by rw [HM.out]; exact X) (i := k) (k := par k) hkm (by omega) (by omega))
      rw [HM.out] at hsw
      have hg : g < wr.heap.size := A.out.foot_lt (.inr (.inl rfl))
      have H0 := hide h0
      clear hat hp hro ht hm hkm h0
      cases hah : aheadB (tat m k) (tat m (par k))
      · rw [hah] at HA
        have HF := hide hah
        clear hah
        obtain ⟨tk, htk⟩ : ∃ tk, tat m k = tk := ⟨_, rfl⟩
        obtain ⟨tp, htp⟩ : ∃ tp, tat m (par k) = tp := ⟨_, rfl⟩
        rw [htk] at a0 a1 a2 a3 a4 HA
        rw [htp] at b0 b1 b2 b3 b4 HA
        clear htk htp
        go_wp2_with fail
        go_region_held3 (fun W => (∀ b o, b < wr.heap.size → W.cell? ⟨b, o, none⟩ = wr.cell? ⟨b, o, none⟩) ∧ Ext wr W) (first | with_reducible exact pr_start _ | exact pr_of (by (with_reducible (repeat' (first | exact Ext.refl _ | assumption | refine Ext.drew ?_ | refine Ext.drewN ?_ _ | refine Ext.alloc ?_ _ | refine Ext.setCell ?_ ?_ _ | refine Ext.trans ?_ (by assumption)))); all_goals (first | (simp; done) | (simp; omega))))
          (first | (go_at_call 189; refine (HA.out _).mono ?_; rintro e w3 ⟨rfl, hb3⟩))
        rename_i hS
        have hx3 : Ext wr w3 := hS.2
        clear hS
        go_wp2
        go_end0
        exact ⟨rfl, m, A.out.ext hx3, T.out.trans (Touch.of_ext hx3), P.out, rise_end R.out (.inr HF.out)⟩
      · rw [hah] at HA
        have HF := hide hah
        clear hah
        obtain ⟨tk, htk⟩ : ∃ tk, tat m k = tk := ⟨_, rfl⟩
        obtain ⟨tp, htp⟩ : ∃ tp, tat m (par k) = tp := ⟨_, rfl⟩
        rw [htk] at a0 a1 a2 a3 a4 HA
        rw [htp] at b0 b1 b2 b3 b4 HA
        clear htk htp
        go_wp2_with fail
        go_region_held3 (fun W => (∀ b o, b < wr.heap.size → W.cell? ⟨b, o, none⟩ = wr.cell? ⟨b, o, none⟩) ∧ Ext wr W) (first | with_reducible exact pr_start _ | exact pr_of (by (with_reducible (repeat' (first | exact Ext.refl _ | assumption | refine Ext.drew ?_ | refine Ext.drewN ?_ _ | refine Ext.alloc ?_ _ | refine Ext.setCell ?_ ?_ _ | refine Ext.trans ?_ (by assumption)))); all_goals (first | (simp; done) | (simp; omega))))
          (first | (go_at_call 189; refine (HA.out _).mono ?_; rintro e w3 ⟨rfl, hb3⟩))
        rename_i hS
        have hx3 : Ext wr w3 := hS.2
        clear hS a0 a1 a2 a3 a4 b0 b1 b2 b3 b4 c0
        go_wp2_with (go_at_call 157; refine (hsw.out _ (A.out.ext hx3)).mono ?_; rintro e w4 ⟨rfl, A4, t4⟩; have A4 := hide A4; have T4 := hide t4; clear t4)
        go_roundw
        case rel => exact ⟨par k, swp m k (par k), rfl, by omega, (swp_perm (by have := HM.out; omega) (by have := HM.out; omega)).trans P.out, rise_step R.out (by omega) (by have := HM.out; omega) HF.out, A4.out, T.out.trans ((Touch.of_ext hx3).trans T4.out)⟩
        case measure => simp [intOf]; omega

/-- In sink's inner loop: the least of a thing and of those children that were looked at. -/
def Least (m : List Thing) (n k f q : Nat) : Prop :=
  (f = k ∨ par f = k ∧ 0 < f ∧ f < n) ∧ ∀ j, (j = k ∨ 2 * k + 1 ≤ j ∧ j < q) → j < n → Le (tat m f) (tat m j)
theorem least_start (m : List Thing) (n k : Nat) : Least m n k k (2 * k + 1) := ⟨.inl rfl, fun j hj _ => by
  rcases hj with rfl | hj
  · exact Le.refl _
  · omega⟩
theorem least_keep {m : List Thing} {n k f q : Nat} (h : Least m n k f q) (ha : aheadB (tat m q) (tat m f) = false) : Least m n k f (q + 1) := by
  refine ⟨h.1, fun j hj hjn => ?_⟩
  by_cases e : j = q
  · subst e; exact ha
  · exact h.2 j (by omega) hjn
theorem least_turn {m : List Thing} {n k f q : Nat} (h : Least m n k f q) (h1 : 2 * k + 1 ≤ q) (h2 : q ≤ 2 * k + 2) (hq : q < n) (ha : aheadB (tat m q) (tat m f) = true) : Least m n k q (q + 1) := by
  refine ⟨.inr ⟨by unfold par; omega, by omega, hq⟩, fun j hj hjn => ?_⟩
  by_cases e : j = q
  · subst e; exact Le.refl _
  · exact (le_of_ahead ha).trans (h.2 j (by omega) hjn)
theorem least_end {m : List Thing} {k q : Nat} (h : Least m m.length k k q) (hs : SinkOk m k) (hq : q = 2 * k + 3 ∨ m.length ≤ q) : HeapOk m :=
  sink_end hs fun j j0 hj hp => h.2 j (by unfold par at hp; omega) hj
theorem least_go {m : List Thing} {k f q : Nat} (h : Least m m.length k f q) (hs : SinkOk m k) (hk : k < m.length) (hf : f ≠ k) (hq : q = 2 * k + 3 ∨ m.length ≤ q) : SinkOk (swp m k f) f := by
  rcases h.1 with h1 | ⟨h1, h2, h3⟩
  · exact absurd h1 hf
  · exact sink_step hs hk h3 h2 h1 (h.2 k (.inl rfl) hk) fun j j0 hj hp => h.2 j (by unfold par at hp; omega) hj

end Go.Proofs.Ytifbmapianddcaa
