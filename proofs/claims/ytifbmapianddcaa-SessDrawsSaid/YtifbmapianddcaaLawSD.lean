/- The walk of SessDraws. -/
import Derived.Test.YtifbmapianddcaaSessV
import Derived.Test.YtifbmapianddcaaSessD
set_option linter.all false
set_option linter.unusedVariables false
set_option linter.unusedSimpArgs false
namespace Go.Proofs.Ytifbmapianddcaa
open Go.RowKit

set_option maxRecDepth 100000 in
theorem draws_no (most first many : Int) (w : World) (h : most < 1 ∨ 4 < most) : Calls Try.prog 11 #[.int .i64 most, .int .u64 first, .int .i64 many] w fun e w' => e = .returned (.bool true) ∧ Ext w w' := by
  go_enter Try.func11, Try.ntmps11
  go_wp2_with (first
    | (go_at_call 38; refine (sNew_no most _ h).mono ?_; rintro e w' ⟨rfl, rfl⟩)
    | (go_at_call 39; refine (awake21_any _).mono ?_; rintro e w1 ⟨rfl, hb1⟩; obtain ⟨hc1, hf1⟩ := hb1.cells; have hz1 := hb1.size; (repeat (first | rw [World.size_alloc] at hz1 | rw [World.size_drew] at hz1))))
  go_ret
  exact ⟨rfl, (by (with_reducible (repeat' (first | exact Ext.refl _ | assumption | refine Ext.drew ?_ | refine Ext.drewN ?_ _ | refine Ext.alloc ?_ _ | refine Ext.setCell ?_ ?_ _ | refine Ext.trans ?_ (by assumption)))); all_goals (first | (simp; done) | (simp; omega)))⟩

set_option maxRecDepth 100000 in
theorem draws_out (most first many : Int) (w : World) (h1 : 1 ≤ most) (h2 : most ≤ 4) (h : many < 0 ∨ 1100 < many ∨ first = 0 ∨ 18446744073709550515 < first) : Calls Try.prog 11 #[.int .i64 most, .int .u64 first, .int .i64 many] w fun e w' => e = .returned (.bool true) ∧ Ext w w' := by
  have HH := hide h
  clear h
  go_enter Try.func11, Try.ntmps11
  go_wp2_with (first
    | (go_at_call 38; refine (iNew most _ h1 h2).mono ?_; rintro x w1 ⟨d, n, e, rfl, i1⟩; have I1 := hide i1; clear i1)
    | (go_at_call 39; refine (awake21_any _).mono ?_; rintro e w2 ⟨rfl, hb2⟩; obtain ⟨hc2, hf2⟩ := hb2.cells; have hz2 := hb2.size; (repeat (first | rw [World.size_alloc] at hz2 | rw [World.size_drew] at hz2))))
  all_goals first
    | (go_ret; exact ⟨rfl, Ext.trans I1.out.bel (by (with_reducible (repeat' (first | exact Ext.refl _ | assumption | refine Ext.drew ?_ | refine Ext.drewN ?_ _ | refine Ext.alloc ?_ _ | refine Ext.setCell ?_ ?_ _ | refine Ext.trans ?_ (by assumption)))); all_goals (first | (simp; done) | (simp; omega)))⟩)
    | (exfalso; have := HH.out; omega)

/-- The n numbers from f + i on. -/
def segU (f : Int) (i n : Nat) : List Int := (List.range n).map (fun k => f + ((i + k : Nat) : Int))
theorem segU_len (f : Int) (i n : Nat) : (segU f i n).length = n := by simp [segU]
theorem segU_snoc (f : Int) (i n : Nat) : segU f i (n + 1) = segU f i n ++ [f + ((i + n : Nat) : Int)] := by unfold segU; rw [List.range_succ, List.map_append]; rfl
theorem segU_cons (f : Int) (i n : Nat) : segU f i (n + 1) = (f + (i : Int)) :: segU f (i + 1) n := by
  unfold segU
  rw [List.range_succ_eq_map, List.map_cons, List.map_map]
  congr 1
  refine List.map_congr_left (fun k _ => ?_)
  simp only [Function.comp]
  congr 2
  omega
theorem segU_mem {f x : Int} {i n : Nat} : x ∈ segU f i n ↔ ∃ k, k < n ∧ x = f + ((i + k : Nat) : Int) := by
  unfold segU
  rw [List.mem_map]
  constructor
  · rintro ⟨k, hk, rfl⟩; exact ⟨k, List.mem_range.1 hk, rfl⟩
  · rintro ⟨k, hk, rfl⟩; exact ⟨k, List.mem_range.2 hk, rfl⟩
theorem segU_nodup (f : Int) (i n : Nat) : (segU f i n).Nodup := by
  unfold segU
  refine List.Pairwise.map _ ?_ (List.nodup_range (n := n))
  intro a b h e
  apply h
  omega
theorem wrapU {x : Int} (h0 : 0 ≤ x) (h1 : x ≤ 18446744073709551615) : IntKind.u64.wrap x = x := by
  rw [IntKind.wrap_u64]
  omega
theorem u64_of {x : Int} (h0 : 0 ≤ x) (h1 : x ≤ 18446744073709551615) : U64 x := by
  unfold U64 Lit.wf
  simp
  exact ⟨h0, h1⟩
/-- What the desk is while tokens are drawn. -/
abbrev InvD (b : Nat) (w0 w : World) (d n e : Nat) (most : Int) (row ever now : List Int) : Prop := Inv b w0 w d n e most row ever now (.slice none 0 0) (.slice none 0 0) [] []

set_option maxRecDepth 100000 in
set_option maxHeartbeats 4000000 in
theorem draws_all (most first : Int) (many : Nat) (w : World) (h1 : 1 ≤ most) (h2 : most ≤ 4) (hm : many ≤ 1100) (hf0 : (first == 0) = false) (hf : first ≤ 18446744073709550515) (hp : 0 < first) : Calls Try.prog 11 #[.int .i64 most, .int .u64 first, .int .i64 (many : Int)] w fun e w' => e = .returned (.bool true) ∧ Ext w w' := by
  obtain ⟨M, hM⟩ : ∃ M : Int, (many : Int) = M := ⟨_, rfl⟩
  have HM := hide hM
  have m0 : 0 ≤ M := by omega
  have m1 : M ≤ 1100 := by omega
  have HF := hide hf
  have HP := hide hp
  have hlt : decide (18446744073709550515 < first) = false := by simpa using hf
  rw [hM]
  clear hM hf hp hm
  go_enter Try.func11, Try.ntmps11
  go_wp2_with (go_at_call 38; refine (iNew most _ h1 h2).mono ?_; rintro x w1 ⟨d, n, e, rfl, i1⟩; have I1 := hide i1; clear i1)
  go_loopw [9] (fun i wr => ∃ k : Nat, ∃ z : Int, i = .int .i64 z ∧ (k : Int) = z ∧ z ≤ M ∧ InvD w.heap.size w wr d n e most (segU first 0 (min k 1024)) [] []) (fun i _ => (M - Lib.intOf i).toNat)
  case atStart => exact ⟨0, 0, rfl, rfl, m0, I1.out⟩
  case round =>
    obtain ⟨k, z, rfl, hkz, hzM, hI⟩ := hrel
    have HI := hide hI
    have HK := hide hkz
    have z0 : 0 ≤ z := by omega
    clear hI hkz
    by_cases hz : z < M
    · have hw : IntKind.u64.wrap (first + z) = first + z := wrapU (by have := HP.out; omega) (by have := HF.out; omega)
      have HW := hide hw
      have HUz := hide (show U64 (first + z) from u64_of (by have := HP.out; omega) (by have := HF.out; omega))
      clear hw
      by_cases hk : z < 1024
      · go_wp2_with fail
        rw [HW.out]
        refine (iDraw_ok HI.out (by rw [segU_len]; have := HK.out; omega) _ HUz.out).mono ?_
        rintro e1 w2 ⟨rfl, i2⟩
        have HI2 := hide i2
        clear i2
        go_wp2_with fail
        go_roundw
        case rel =>
          refine ⟨k + 1, z + 1, rfl, by have := HK.out; omega, by omega, ?_⟩
          have hk' := HK.out
          have e : min (k + 1) 1024 = min k 1024 + 1 := by omega
          rw [e, segU_snoc, show first + ((0 + min k 1024 : Nat) : Int) = first + z by omega]
          exact HI2.out
        case measure => simp [Lib.intOf]; omega
      · go_wp2_with fail
        rw [HW.out]
        refine (iDraw_full HI.out (by rw [segU_len]; have := HK.out; omega) _).mono ?_
        rintro e1 w2 ⟨rfl, rfl⟩
        go_wp2_with fail
        go_roundw
        case rel =>
          refine ⟨k + 1, z + 1, rfl, by have := HK.out; omega, by omega, ?_⟩
          have hk' := HK.out
          have e : min (k + 1) 1024 = min k 1024 := by omega
          rw [e]
          exact HI.out
        case measure => simp [Lib.intOf]; omega
    · obtain rfl : z = M := by omega
      obtain ⟨N, hN⟩ : ∃ N : Nat, min k 1024 = N := ⟨_, rfl⟩
      rw [hN] at HI
      have HN := hide (show N = min k 1024 from hN.symm)
      clear hN
      obtain ⟨m, hm⟩ : ∃ m : Int, m = (N : Int) := ⟨_, rfl⟩
      have HMm := hide hm
      have hkk := HK.out
      have hnn := HN.out
      have hm0 : 0 ≤ m := by omega
      have hm1 : m ≤ 1024 := by omega
      have HE := hide (show (1024 < z → (1024 : Int) = m) ∧ (¬ 1024 < z → z = m) from ⟨fun h => by omega, fun h => by omega⟩)
      clear hm hkk hnn
      have HL := hide (iLeft HI.out)
      by_cases h4 : 1024 < z
      all_goals
        go_wp2_with fail
        refine HL.out.mono ?_
        rintro e1 w2 ⟨rfl, rfl⟩
        rw [segU_len, ← HMm.out]
        first
          | rw [HE.out.1 h4]
          | rw [HE.out.2 h4]
        clear h4
        go_wp2_with fail
        go_loopw [11] (fun i wx => ∃ j : Nat, ∃ y : Int, i = .int .i64 y ∧ (j : Int) = y ∧ j ≤ N ∧ InvD w.heap.size w wx d n e most (segU first j (N - j)) (segU first 0 j) (segU first (j - min j most.toNat) (min j most.toNat))) (fun i _ => (m - Lib.intOf i).toNat)
        case atStart => exact ⟨0, 0, rfl, rfl, Nat.zero_le _, by simpa [segU] using HI.out⟩
        case round =>
          obtain ⟨j, y, rfl, hjy, hjN, hI2⟩ := hrel
          have HI2 := hide hI2
          have HJ := hide hjy
          have HJN := hide hjN
          have y0 : 0 ≤ y := by omega
          clear hI2 hjy hjN
          by_cases hy : y < m
          · have hw : IntKind.u64.wrap (first + y) = first + y := wrapU (by have := HP.out; omega) (by have := HF.out; omega)
            have HUy := hide (show U64 (first + y) from u64_of (by have := HP.out; omega) (by have := HF.out; omega))
            by_cases hmo : most ≤ y
            · have HT := hide (show (first + y) ∉ segU first 0 j from by
                rw [segU_mem]
                rintro ⟨q, hq, e⟩
                have hj := HJ.out
                omega)
              have HB := hide (show InvD w.heap.size w wr d n e most ((first + y) :: segU first (j + 1) (N - (j + 1))) (segU first 0 j) ((first + (y - most)) :: segU first (j - most.toNat + 1) (most.toNat - 1)) from by
                have hj := HJ.out
                have hmm := HMm.out
                have h := HI2.out
                rw [show N - j = (N - (j + 1)) + 1 by omega, segU_cons, hj, show min j most.toNat = (most.toNat - 1) + 1 by omega, segU_cons, show first + ((j - (most.toNat - 1 + 1) : Nat) : Int) = first + (y - most) by omega, show j - (most.toNat - 1 + 1) = j - most.toNat by omega] at h
                exact h)
              have hw2 : IntKind.u64.wrap (first + (y - most)) = first + (y - most) := wrapU (by have := HP.out; omega) (by have := HF.out; omega)
              have HU2 := hide (show U64 (first + (y - most)) from u64_of (by have := HP.out; omega) (by have := HF.out; omega))
              have HO1 := hide (iOpen_full HB.out (by rw [List.length_cons, segU_len]; omega))
              go_wp2_with fail
              refine HO1.out.mono ?_
              rintro e1 w2 ⟨rfl, i2⟩
              have HI3 := hide i2
              clear i2
              have HCl := hide (iClose_ok HI3.out (first + (y - most)) HU2.out (by simp))
              go_wp2_with fail
              refine HCl.out.mono ?_
              rintro e2 w3 ⟨rfl, i3⟩
              rw [List.erase_cons_head] at i3
              have HOk := hide (iOpen_ok i3 (by rw [segU_len]; omega) (by rw [segU_len]; have := HMm.out; omega) (by rw [segU_len]; have := HJ.out; omega) HT.out (by have := HP.out; rw [beq_eq_false_iff_ne]; omega))
              clear i3
              go_wp2_with fail
              refine HOk.out.mono ?_
              rintro e3 w4 ⟨rfl, i4⟩
              have HI5 := hide i4
              have HH := hide (show Calls Try.prog 46 #[.pointer (some ⟨d, 0, none⟩), .int .u64 (first + y)] w4 fun r w' => r = .returned (.bool true) ∧ w4 = w' from (iHas HI5.out _ HUy.out).mono (fun r w' h => ⟨by rw [h.1]; simp, h.2⟩))
              clear i4
              go_wp2_with (go_at_call 46; refine HH.out.mono ?_; rintro e2 w5 ⟨rfl, rfl⟩)
              go_roundw
              case rel =>
                have hj := HJ.out
                have hmm := HMm.out
                refine ⟨j + 1, y + 1, rfl, by omega, by omega, ?_⟩
                have h := HI5.out
                rw [show min (j + 1) most.toNat = (most.toNat - 1) + 1 by omega, show j + 1 - (most.toNat - 1 + 1) = j - most.toNat + 1 by omega, segU_snoc, segU_snoc, show first + ((0 + j : Nat) : Int) = first + y by omega, show first + ((j - most.toNat + 1 + (most.toNat - 1) : Nat) : Int) = first + y by omega]
                exact h
              case measure => simp [Lib.intOf]; omega
            · have HB := hide (show InvD w.heap.size w wr d n e most ((first + y) :: segU first (j + 1) (N - (j + 1))) (segU first 0 j) (segU first 0 j) from by
                have hj := HJ.out
                have hmm := HMm.out
                have h := HI2.out
                rw [show N - j = (N - (j + 1)) + 1 by omega, segU_cons, hj, show min j most.toNat = j by omega, show j - j = 0 by omega] at h
                exact h)
              have HT := hide (show (first + y) ∉ segU first 0 j from by
                rw [segU_mem]
                rintro ⟨q, hq, e⟩
                have hj := HJ.out
                omega)
              have HTk := hide (iOpen_ok HB.out (by rw [segU_len]; have := HJ.out; omega) (by rw [segU_len]; have := HMm.out; omega) (by rw [segU_len]; have := HJ.out; omega) HT.out (by have := HP.out; rw [beq_eq_false_iff_ne]; omega))
              go_wp2_with fail
              refine HTk.out.mono ?_
              rintro e1 w2 ⟨rfl, i2⟩
              have HI3 := hide i2
              have HH := hide (show Calls Try.prog 46 #[.pointer (some ⟨d, 0, none⟩), .int .u64 (first + y)] w2 fun r w' => r = .returned (.bool true) ∧ w2 = w' from (iHas HI3.out _ HUy.out).mono (fun r w' h => ⟨by rw [h.1]; simp, h.2⟩))
              clear i2
              go_wp2_with (go_at_call 46; refine HH.out.mono ?_; rintro e2 w3 ⟨rfl, rfl⟩)
              go_roundw
              case rel =>
                have hj := HJ.out
                have hmm := HMm.out
                refine ⟨j + 1, y + 1, rfl, by omega, by omega, ?_⟩
                have h := HI3.out
                rw [show min (j + 1) most.toNat = j + 1 by omega, show j + 1 - (j + 1) = 0 by omega, segU_snoc, show first + ((0 + j : Nat) : Int) = first + y by omega]
                exact h
              case measure => simp [Lib.intOf]; omega
          · obtain ⟨q, hq⟩ : ∃ q : Nat, min N most.toNat = q := ⟨_, rfl⟩
            obtain ⟨s, hs⟩ : ∃ s : Nat, N - q = s := ⟨_, rfl⟩
            have hj := HJ.out
            have hjn := HJN.out
            have hmm := HMm.out
            have HI3 := hide (show InvD w.heap.size w wr d n e most [] (segU first 0 N) (segU first s q) from by
              have h := HI2.out
              obtain rfl : j = N := by omega
              rw [hq, hs, show j - j = 0 by omega] at h
              exact h)
            have HQ := hide (show (m - (q : Int) = (s : Int)) ∧ (m < most → m = (q : Int)) ∧ (most ≤ m → most = (q : Int)) from ⟨by omega, fun _ => by omega, fun _ => by omega⟩)
            have hqm : (q : Int) ≤ m := by omega
            have hq4 : (q : Int) ≤ 4 := by omega
            obtain rfl : y = m := by omega
            clear hq hs hj hjn hmm HI2 HJ HJN HI HL
            have HT : Hid (Calls Try.prog 51 #[.pointer (some ⟨d, 0, none⟩)] wr fun r w' => ∃ v', r = .returned v' ∧ Ext wr w' ∧ Own u64E w' wr.heap.size 38 v' (segU first s q)) := hide (by
              obtain ⟨v, D, _⟩ := HI3.out.ex
              refine sTokens_any D (fun x hx => ?_) (by rw [segU_len]; omega)
              obtain ⟨k, hk, rfl⟩ := segU_mem.1 hx
              have := HQ.out.1
              exact u64_of (by have := HP.out; omega) (by have := HF.out; omega))
            go_wp2_with fail
            refine HT.out.mono ?_
            rintro e1 w2 ⟨v', rfl, x2, o2⟩
            obtain ⟨a2, c2, rfl⟩ := o2.slice
            rw [segU_len]
            have HI4 := hide (HI3.out.ext x2)
            have HLf := hide (show Calls Try.prog 49 #[.pointer (some ⟨d, 0, none⟩)] w2 fun r w' => r = .returned (.int .i64 0) ∧ w2 = w' from iLeft HI4.out)
            have HCn := hide (show Calls Try.prog 48 #[.pointer (some ⟨d, 0, none⟩)] w2 fun r w' => r = .returned (.int .i64 (q : Int)) ∧ w2 = w' from (iCount HI4.out).mono (fun r w' h => ⟨by rw [h.1, segU_len], h.2⟩))
            have HA := hide (show 0 < q → ∃ g : Nat, a2 = some ⟨g, 0, none⟩ ∧ ∀ p : Nat, p < q → w2.cell? ⟨g, p, none⟩ = some (.int .u64 (first + (y - (q : Int) + (p : Int)))) from by
              intro h0
              obtain ⟨g, c, hv, _, _⟩ := own_pos o2 (by rw [segU_len]; exact h0)
              simp only [Value.slice.injEq] at hv
              obtain ⟨rfl, _, rfl⟩ := hv
              refine ⟨g, rfl, fun p hp => ?_⟩
              have hc := (Reads.u64s o2.reads).2 p (by rw [segU_len]; exact hp)
              rw [Nat.zero_add] at hc
              rw [hc]
              have h1 := HQ.out.1
              simp [segU]
              omega)
            clear x2 o2 HT HI3
            by_cases hq0 : 0 < q
            · obtain ⟨g, rfl, hA⟩ := HA.out hq0
              have HA' := hide hA
              clear hA HA
              go_wp2_with fail
              go_loopw [15] (fun i wy => ∃ p : Nat, i = .int .i64 (p : Int) ∧ p ≤ q ∧ wy = w2) (fun i _ => q - (Lib.intOf i).toNat)
              case atStart => exact ⟨0, rfl, Nat.zero_le _, rfl⟩
              case round =>
                obtain ⟨p, rfl, hp, rfl⟩ := hrel
                by_cases hlt : p < q
                · have hc := HA'.out p hlt
                  have hw1 : IntKind.u64.wrap (y - (q : Int) + (p : Int)) = y - (q : Int) + (p : Int) := wrapU (by omega) (by omega)
                  have hw2 : IntKind.u64.wrap (first + (y - (q : Int) + (p : Int))) = first + (y - (q : Int) + (p : Int)) := wrapU (by have := HP.out; omega) (by have := HF.out; omega)
                  go_wp2
                  go_roundw
                  case rel => exact ⟨p + 1, by go_num, by omega, by first | rfl | trivial⟩
                  case measure => simp [Lib.intOf]; omega
                · obtain rfl : p = q := by omega
                  by_cases hmo : y < most
                  · have e1 : decide (y < most) = true := by simpa using hmo
                    have e2 : ((p : Int) == y) = true := by rw [beq_iff_eq]; exact (HQ.out.2.1 hmo).symm
                    go_wp2_with (first
                      | (go_at_call 49; refine HLf.out.mono ?_; rintro r w9 ⟨rfl, rfl⟩)
                      | (go_at_call 48; refine HCn.out.mono ?_; rintro r w9 ⟨rfl, rfl⟩)
                      | (go_at_call 39; refine (awake21_any _).mono ?_; rintro e w3 ⟨rfl, hb3⟩; obtain ⟨hc3, hf3⟩ := hb3.cells; have hz3 := hb3.size; (repeat (first | rw [World.size_alloc] at hz3 | rw [World.size_drew] at hz3))))
                    go_ret
                    exact ⟨rfl, Ext.trans HI4.out.bel (by (with_reducible (repeat' (first | exact Ext.refl _ | assumption | refine Ext.drew ?_ | refine Ext.drewN ?_ _ | refine Ext.alloc ?_ _ | refine Ext.setCell ?_ ?_ _ | refine Ext.trans ?_ (by assumption)))); all_goals (first | (simp; done) | (simp; omega)))⟩
                  · have e1 : decide (y < most) = false := by simpa using hmo
                    have e3 : decide (most ≤ y) = true := by simp; omega
                    have e2 : ((p : Int) == most) = true := by rw [beq_iff_eq]; exact (HQ.out.2.2 (by omega)).symm
                    go_wp2_with (first
                      | (go_at_call 49; refine HLf.out.mono ?_; rintro r w9 ⟨rfl, rfl⟩)
                      | (go_at_call 48; refine HCn.out.mono ?_; rintro r w9 ⟨rfl, rfl⟩)
                      | (go_at_call 39; refine (awake21_any _).mono ?_; rintro e w3 ⟨rfl, hb3⟩; obtain ⟨hc3, hf3⟩ := hb3.cells; have hz3 := hb3.size; (repeat (first | rw [World.size_alloc] at hz3 | rw [World.size_drew] at hz3))))
                    go_ret
                    exact ⟨rfl, Ext.trans HI4.out.bel (by (with_reducible (repeat' (first | exact Ext.refl _ | assumption | refine Ext.drew ?_ | refine Ext.drewN ?_ _ | refine Ext.alloc ?_ _ | refine Ext.setCell ?_ ?_ _ | refine Ext.trans ?_ (by assumption)))); all_goals (first | (simp; done) | (simp; omega)))⟩
            · obtain rfl : q = 0 := by omega
              clear HA
              go_wp2_with fail
              go_loopw [15] (fun i wy => i = .int .i64 0 ∧ wy = w2) (fun i _ => 0)
              case atStart => exact ⟨rfl, rfl⟩
              case round =>
                obtain ⟨rfl, rfl⟩ := hrel
                by_cases hmo : y < most
                · have e1 : decide (y < most) = true := by simpa using hmo
                  have e2 : ((0 : Int) == y) = true := by rw [beq_iff_eq]; exact (HQ.out.2.1 hmo).symm
                  go_wp2_with (first
                    | (go_at_call 49; refine HLf.out.mono ?_; rintro r w9 ⟨rfl, rfl⟩)
                    | (go_at_call 48; refine HCn.out.mono ?_; rintro r w9 ⟨rfl, rfl⟩)
                    | (go_at_call 39; refine (awake21_any _).mono ?_; rintro e w3 ⟨rfl, hb3⟩; obtain ⟨hc3, hf3⟩ := hb3.cells; have hz3 := hb3.size; (repeat (first | rw [World.size_alloc] at hz3 | rw [World.size_drew] at hz3))))
                  go_ret
                  exact ⟨rfl, Ext.trans HI4.out.bel (by (with_reducible (repeat' (first | exact Ext.refl _ | assumption | refine Ext.drew ?_ | refine Ext.drewN ?_ _ | refine Ext.alloc ?_ _ | refine Ext.setCell ?_ ?_ _ | refine Ext.trans ?_ (by assumption)))); all_goals (first | (simp; done) | (simp; omega)))⟩
                · exfalso
                  have := HQ.out.2.2 (by omega)
                  omega
end Go.Proofs.Ytifbmapianddcaa
