/- The reference's Close. -/
import Derived.Test.YtifbmapianddcaaTokS
set_option linter.all false
set_option linter.unusedVariables false
set_option linter.unusedSimpArgs false
namespace Go.Proofs.Ytifbmapianddcaa
open Go.RowKit

theorem era_lt {l : List Int} {i k : Nat} (hi : i < l.length) (h : i < k) : (l.take (i + 1)).eraseIdx k = (l.take i).eraseIdx k ++ [l[i]] := by
  rw [List.take_succ_eq_append_getElem hi, List.eraseIdx_of_length_le (by simp; omega), List.eraseIdx_of_length_le (by simp; omega)]
theorem era_eq {l : List Int} {k : Nat} (hi : k < l.length) : (l.take (k + 1)).eraseIdx k = (l.take k).eraseIdx k := by
  rw [List.take_succ_eq_append_getElem hi, List.eraseIdx_append_of_length_le (by simp; omega), List.eraseIdx_of_length_le (l := l.take k) (by simp; omega)]
  simp [Nat.min_eq_left (Nat.le_of_lt hi)]
theorem era_gt {l : List Int} {i k : Nat} (hi : i < l.length) (h : k < i) : (l.take (i + 1)).eraseIdx k = (l.take i).eraseIdx k ++ [l[i]] := by
  rw [List.take_succ_eq_append_getElem hi, List.eraseIdx_append_of_lt_length (by simp; omega)]
theorem era_ne {l : List Int} {i k : Nat} (hi : i < l.length) (h : i ≠ k) : (l.take (i + 1)).eraseIdx k = (l.take i).eraseIdx k ++ [l[i]] := by
  rcases Nat.lt_or_gt_of_ne h with h | h
  · exact era_lt hi h
  · exact era_gt hi h

section
variable {w w' : World} {d : Nat} {most : Int} {vr vn ve v' : Value} {row ever now l : List Int}
theorem RowO.head_at (h : RowO w vn now) (h0 : 0 < now.length) : ∃ g off c, vn = .slice (some ⟨g, off, none⟩) now.length c ∧ g < w.heap.size ∧ U64sAt w g off now := by
  rcases h with ⟨_, rfl⟩ | ⟨g, off, cap, rfl, hg, hl, hc, hf⟩
  · simp at h0
  · exact ⟨g, off, cap, rfl, hg, hc⟩

theorem rkClose_no (h : RefAt w d most vr vn ve row ever now) (hl : now.length ≤ 1000000) (x : Int) (hx : x ∉ now) : Calls Try.prog 45 #[.pointer (some ⟨d, 0, none⟩), .int .u64 x] w fun r w' => r = .returned (.int .i64 19) ∧ TurnedR w d most vr vn ve row ever now w' := by
  have T := hide (TurnedR.same h (Ext.refl w))
  have HK := hide (findI_no hx)
  obtain ⟨a, c, rfl⟩ := h.now.slice
  have HR := hide h.now.reads
  have c1 : w.cell? ⟨d, 2, none⟩ = some (.slice a now.length c) := h.blk.cell 2
  clear h hx
  go_enter Try.func45, Try.ntmps45
  go_wp2_with (go_at_call 47; refine (rkFind_any x _ _ _ hl HR.out).mono ?_; rintro x9 w9 ⟨rfl, rfl⟩; rw [HK.out])
  go_ret
  exact ⟨rfl, T.out⟩

set_option maxRecDepth 100000 in
theorem rkClose_ok (h : RefAt w d most vr vn ve row ever now) (hl : now.length ≤ 1000000) (x : Int) (hx : x ∈ now) : Calls Try.prog 45 #[.pointer (some ⟨d, 0, none⟩), .int .u64 x] w fun r w' => r = .returned (.int .i64 0) ∧ TurnedR w d most vr vn ve row ever (now.erase x) w' := by
  have H := hide h
  obtain ⟨k, hk, hkl, hke⟩ := findI_yes hx
  obtain ⟨g, off, c, rfl, hg, hc⟩ := h.now.head_at (by omega)
  have HC := hide hc
  have HK := hide hk
  have HE := hide hke
  have HR := hide h.now.reads
  have c1 : w.cell? ⟨d, 2, none⟩ = some (.slice (some ⟨g, off, none⟩) now.length c) := h.blk.cell 2
  have f1 : w.frozen? ⟨d, 2, none⟩ = false := h.blk.frozen 2
  have hd := h.blk.lt
  clear h hx hk hke hc
  go_enter Try.func45, Try.ntmps45
  go_wp2_with (go_at_call 47; refine (rkFind_any x _ _ _ hl HR.out).mono ?_; rintro x9 w9 ⟨rfl, rfl⟩; rw [HK.out])
  go_loopw [6, 7] (fun o i wr => ∃ j : Nat, j ≤ now.length ∧ i = .int .i64 j ∧ Own u64E wr w.heap.size 38 o ((now.take j).eraseIdx k) ∧ Ext w wr) (fun _ i _ => now.length - (intOf i).toNat)
  case atStart => exact ⟨0, Nat.zero_le _, rfl, by simpa using Own.nil _ _ _ _, Ext.refl _⟩
  case round =>
    obtain ⟨j, hj, rfl, ho, hx⟩ := hrel
    have O := hide ho
    have X := hide hx
    have hz := hx.size
    have d1 : wr.cell? ⟨d, 2, none⟩ = some (.slice (some ⟨g, off, none⟩) now.length c) := (hx.cell (p := ⟨d, 2, none⟩) hd).trans c1
    have g1 : wr.frozen? ⟨d, 2, none⟩ = false := ((Touch.of_ext (S := fun _ => False) hx).frozen (p := ⟨d, 2, none⟩) hd (fun x => x)).trans f1
    clear ho hx
    obtain ⟨ao, co, rfl⟩ := O.out.slice
    by_cases hlt : j < now.length
    · have dk := (X.out.cell (p := ⟨g, off + j, none⟩) hg).trans (HC.out j hlt)
      obtain ⟨y, hy⟩ : ∃ y, now[j] = y := ⟨_, rfl⟩
      rw [hy] at dk
      by_cases hjk : j = k
      · have HE2 := hide (era_eq hkl)
        subst hjk
        go_wp2
        go_roundw
        case rel => exact ⟨j + 1, by omega, by go_num, by rw [HE2.out]; exact O.out, X.out⟩
        case measure => simp [intOf]; omega
      · have HE2 := hide (era_ne hlt hjk)
        have HY := hide hy
        have hne : ((j : Int) != (k : Int)) = true := by rw [bne_iff_ne]; omega
        have hll : ((now.take j).eraseIdx k).length ≤ 1000000 := Nat.le_trans (List.length_eraseIdx_le ..) (by simp; omega)
        generalize (now.take j).eraseIdx k = l at *
        clear hy
        go_wp2_with (at_builtin; refine wpList_app_at u64E T_u64s rfl _ _ rfl w.heap.size _ _ l rfl O.out y _ _ rfl _ rfl rfl (by omega) (by omega) hz ?_; intro g9 c9 w9 o9 t9 l9; have O9 := hide o9; have T9 := hide t9; clear o9 t9 l9)
        go_roundw
        case rel => exact ⟨j + 1, by omega, by go_num, by rw [HE2.out, HY.out]; exact O9.out, Below.trans X.out (T9.out.to_below hz (fun k hk => (own_lt O.out hk).1))⟩
        case measure => simp [intOf]; omega
    · obtain rfl : j = now.length := by omega
      obtain ⟨q, hq⟩ : ∃ q, ((now.take now.length).eraseIdx k).length = q := ⟨_, rfl⟩
      rw [hq] at O ⊢
      go_wp2
      go_ret
      have o := RowO.of_own O.out
      rw [List.take_length, HE.out] at o
      obtain ⟨R, t, f⟩ := H.out.put_now o (Touch.of_ext X.out) (fun k hk => .inr (own_lt O.out hk).1)
      exact ⟨rfl, _, _, _, R, t, f⟩
end
end Go.Proofs.Ytifbmapianddcaa
