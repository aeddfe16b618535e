/- Walk of slices.Compact of cells that stand in order. -/
import Derived.Test.YtkioohhjjdlhiaaRowT
import Derived.Test.YtkioohhjjdlhiaaCmpP
set_option linter.all false
set_option linter.unusedVariables false
set_option linter.unusedSimpArgs false
namespace Go.Proofs.Ytkioohhjjdlhiaa
open Go.RowKit

set_option maxRecDepth 100000 in
set_option maxHeartbeats 1000000 in
theorem compact_some {w : World} {sb : Nat} {m cap : Nat} {L : List Cell} {base : Nat} (hL : L.length = m) (hm : m ≤ 100000) (h2 : 2 ≤ m) (hs : L.Pairwise leC) (hv : Own cellE w base 52 (.slice (some ⟨sb, 0, none⟩) m cap) L) :
    Calls Try.prog 29 #[.slice (some ⟨sb, 0, none⟩) m cap] w fun e w' => ∃ v L', e = .returned v ∧ Own cellE w' base 52 v L' ∧ L'.Pairwise ltC ∧ (∀ c, c ∈ L' ↔ c ∈ L) ∧ Touch (fun k => k = sb) w w' := by
  have HV := hide hv
  have HL := hide hL
  have HS := hide hs
  have zb := (own_lt hv rfl).2
  have hcap : m ≤ cap ∧ cap ≤ 9223372036854775807 := by
    rcases hv.2 with ⟨h, _⟩ | ⟨g, c, cur, h, _, _, h1, h2, _⟩
    · cases h
    · cases h
      rw [hL] at h1
      exact ⟨h1, h2⟩
  clear hv hL hs
  go_enter Try.func29, Try.ntmps29
  go_wp2
  go_loopw [3] (fun sk wr => ∃ k : Nat, sk = .int .i64 (k : Int) ∧ 1 ≤ k ∧ k ≤ m ∧ (L.take k).Pairwise ltC ∧ Ext w wr) (fun sk _ => m - (intOf sk).toNat)
  case atStart => exact ⟨1, rfl, Nat.le_refl _, by omega, by rcases L with _ | ⟨a, r⟩ <;> simp, Ext.refl _⟩
  case round =>
    obtain ⟨k, rfl, hk1, hkm, hst, hx⟩ := hrel
    have HT := hide hst
    have HX := hide hx
    have zr : sb < wr.heap.size := Nat.lt_of_lt_of_le zb hx.size
    clear hst hx
    by_cases hlt : k < m
    · obtain ⟨q, hq⟩ : ∃ q, L[k]? = some q := ⟨_, List.getElem?_eq_getElem (by rw [HL.out]; exact hlt)⟩
      obtain ⟨p, hp⟩ : ∃ p, L[k - 1]? = some p := ⟨_, List.getElem?_eq_getElem (by rw [HL.out]; omega)⟩
      have HV2 := hide (HV.out.ext HX.out)
      obtain ⟨d0, d1, _⟩ := cell_cellsG HV2.out hq
      obtain ⟨e0, e1, _⟩ := cell_cellsG HV2.out hp
      have hk0 : (1 : Int) ≤ (k : Int) := by omega
      have hki : (k : Int) < (m : Int) := by omega
      have hsub : ((k : Int) - 1).toNat = k - 1 := by omega
      have HQ := hide hq
      have HP := hide hp
      obtain ⟨qx, qy⟩ := q
      obtain ⟨px, py⟩ := p
      simp only at d0 d1 e0 e1
      have hEq := fun (w : World) => eq_cell (qx, qy) (px, py) w
      simp only at hEq
      clear hq hp
      cases hb : cellB (qx, qy) (px, py)
      · rw [hb] at hEq
        have hne : (qx, qy) ≠ (px, py) := by rw [cellB_eq] at hb; simpa using hb
        have HN := hide (strict_step HS.out HT.out hk1 HQ.out HP.out hne)
        clear hne hb
        go_wp2_with fail
        go_quiet (fail)
        go_wp2
        go_roundw
        case rel => exact ⟨k + 1, by go_num, by omega, by omega, HN.out, HX.out.drewN _⟩
        case measure => simp [intOf]; omega
      · rw [hb] at hEq
        have heq : (qx, qy) = (px, py) := by rw [cellB_eq] at hb; simpa using hb
        have HC := hide (CompAt.start HT.out hk1 HQ.out (by rw [heq]; exact HP.out))
        have hcap1 : (k : Int) ≤ (cap : Int) := by omega
        have hcap2 : ¬ cap = k := by omega
        have hkm' : k ≤ m := by omega
        clear heq hb
        go_wp2_with fail
        go_quiet (fail)
        go_wp2
        go_loopw [3, 5] (fun si sj wy => ∃ (i j : Nat) (X : List Cell), si = .int .i64 (i : Int) ∧ sj = .int .i64 (j : Int) ∧ 1 ≤ j ∧ k + j ≤ m ∧ CompAt L X i (k + j) ∧ Own cellE wy base 52 (.slice (some ⟨sb, 0, none⟩) m cap) X ∧ Touch (fun k => k = sb) w wy) (fun _ sj _ => m - (intOf sj).toNat)
        case atStart => exact ⟨k, 1, L, rfl, rfl, Nat.le_refl _, by omega, HC.out, (HV2.out.ext ((Ext.refl _).drewN _)), Touch.of_ext (HX.out.drewN _)⟩
        case round =>
          obtain ⟨i, j, X, rfl, rfl, hj1, hjm, hC, ho, ht⟩ := hrel
          have HCC := hide hC
          have HO := hide ho
          have HTT := hide ht
          have hXm : X.length = m := by rw [hC.len, HL.out]
          have hij : i < k + j := hC.lt
          have zr2 : sb < wr.heap.size := Nat.lt_of_lt_of_le zb ht.size
          clear hC ho ht d0 d1 e0 e1 hEq
          by_cases hlt2 : j < m - k
          · obtain ⟨q, hq⟩ : ∃ q, L[k + j]? = some q := ⟨_, List.getElem?_eq_getElem (by rw [HL.out]; omega)⟩
            obtain ⟨p, hp⟩ : ∃ p, L[k + j - 1]? = some p := ⟨_, List.getElem?_eq_getElem (by rw [HL.out]; omega)⟩
            have hXq : X[k + j]? = some q := by rw [HCC.out.back _ (by omega)]; exact hq
            have hXp : X[k + j - 1]? = some p := by rw [HCC.out.back _ (Nat.le_refl _)]; exact hp
            obtain ⟨d0, d1, _⟩ := cell_cellsG HO.out hXq
            obtain ⟨e0, e1, _⟩ := cell_cellsG HO.out hXp
            rw [show (k + j) * 2 = k * 2 + j * 2 by omega] at d0 d1
            rw [show (k + j - 1) * 2 = k * 2 + (j - 1) * 2 by omega] at e0 e1
            have hj0 : (1 : Int) ≤ (j : Int) := by omega
            have hji : (j : Int) < ((m - k : Nat) : Int) := by omega
            have hjs : ((j : Int) - 1).toNat = j - 1 := by omega
            have hii : (i : Int) < (m : Int) := by omega
            have HQ2 := hide hq
            have HP2 := hide hp
            obtain ⟨qa, qb⟩ := q
            obtain ⟨pa, pb⟩ := p
            simp only at d0 d1 e0 e1
            have hEq := fun (w : World) => eq_cell (qa, qb) (pa, pb) w
            simp only at hEq
            clear hq hp hXq hXp
            cases hb : cellB (qa, qb) (pa, pb)
            · rw [hb] at hEq
              have hne : (qa, qb) ≠ (pa, pb) := by rw [cellB_eq] at hb; simpa using hb
              have HN := hide (HCC.out.more HS.out (by omega) HQ2.out HP2.out hne)
              clear hne hb
              go_wp2_with fail
              go_quiet (fail)
              obtain ⟨w2, hw2⟩ : ∃ w2, w2 = wr.drewN nq := ⟨_, rfl⟩
              rw [← hw2]
              have hx2 : Ext wr w2 := by rw [hw2]; exact (Ext.refl wr).drewN _
              have HX2 := hide hx2
              have b0 := (hx2.cell (p := ⟨sb, k * 2 + j * 2, none⟩) zr2).trans d0
              have b1 := (hx2.cell (p := ⟨sb, k * 2 + j * 2 + 1, none⟩) zr2).trans d1
              have o2 := HO.out.ext hx2
              obtain ⟨x, hxx⟩ : ∃ x, X[i]? = some x := ⟨_, List.getElem?_eq_getElem (by omega)⟩
              obtain ⟨c0, c1, _⟩ := cell_cellsG o2 hxx
              have h' : w2.ownsRow base 52 2 (.slice (some ⟨sb, 0, none⟩) m cap) X.length (X.flatMap cellE.cells) := o2
              rw [hXm] at h'
              have f0 := h'.frozenAt (i * 2)
              have f1 := h'.frozenAt (i * 2 + 1)
              have O3 : Hid (Own cellE ((w2.setCell ⟨sb, i * 2, none⟩ (.int .i64 qa)).setCell ⟨sb, i * 2 + 1, none⟩ (.int .i64 qb)) base 52 (.slice (some ⟨sb, 0, none⟩) m cap) (X.set i (qa, qb))) := hide (o2.turnG (i := i) (List.getElem?_eq_some_iff.1 hxx).1 (qa, qb))
              have T3 : Hid (Touch (fun k => k = sb) w ((w2.setCell ⟨sb, i * 2, none⟩ (.int .i64 qa)).setCell ⟨sb, i * 2 + 1, none⟩ (.int .i64 qb))) := hide (((HTT.out.trans (Touch.of_ext hx2)).setCell (p := ⟨sb, i * 2, none⟩) (.inl rfl) _).setCell (p := ⟨sb, i * 2 + 1, none⟩) (.inl rfl) _)
              clear d0 d1 e0 e1 hxx o2 h' hx2 hw2 HO hEq
              go_wp2_with fail
              go_roundw
              case rel => exact ⟨i + 1, j + 1, _, by go_num, by go_num, by omega, by omega, HN.out, O3.out, T3.out⟩
              case measure => simp [intOf]; omega
            · rw [hb] at hEq
              have heq : (qa, qb) = (pa, pb) := by rw [cellB_eq] at hb; simpa using hb
              have HN := hide (HCC.out.same (by omega) HQ2.out (by rw [heq]; exact HP2.out))
              clear heq hb
              go_wp2_with fail
              go_quiet (fail)
              go_wp2
              go_roundw
              case rel => exact ⟨i, j + 1, X, rfl, by go_num, by omega, by omega, HN.out, HO.out.ext ((Ext.refl _).drewN _), HTT.out.drewN _⟩
              case measure => simp [intOf]; omega
          · obtain ⟨r, hr⟩ : ∃ r, m = r ∧ k + j = r := ⟨m, rfl, by omega⟩
            have h' : wr.ownsRow base 52 2 (.slice (some ⟨sb, 0, none⟩) m cap) X.length (X.flatMap cellE.cells) := HO.out
            rw [hXm] at h'
            have hflen : (X.flatMap cellE.cells).length = m * 2 := by rw [cellE.flat_len, hXm]; rfl
            have him : i < m := by omega
            obtain ⟨zs, hzl, hcl⟩ := run_clear_cellsG (P := Try.prog) wr 39 52 0 (.agg #[.int .i64 0, .int .i64 0]) T_cellsG.under (fun w => by kernel_rfl) (fun t ht => by
                have ht2 : t < 2 := ht
                obtain rfl | rfl : t = 0 ∨ t = 1 := by omega
                all_goals rfl) sb (i * 2) (m - i) (cap - i) (by omega) (by decide) (fun t ht => by
                have ht2 : t < (m - i) * 2 := ht
                rw [h'.cellAt (i * 2 + t) (by omega), List.getElem?_eq_getElem (by omega)]; rfl) (fun t ht => h'.frozenAt _)
            have hzl2 : zs.length = (m - i) * 2 := hzl
            have FIN := hide (Own.tail_setG (E := cellE) (HO.out.cutG (i := i) (by omega)) zs (by show i * 2 + zs.length ≤ cap * 2; omega))
            have FT := hide (touch_sets sb zs (i * 2) HTT.out (S := fun k => k = sb) rfl)
            have FM : Hid (∀ c, c ∈ X.take i ↔ c ∈ L) := hide (fun c => by
              rw [HCC.out.mem c, List.take_of_length_le (by rw [HL.out]; omega)])
            have hi0 : (i : Int) ≤ (m : Int) := by omega
            have hi1 : (i : Int) ≤ (cap : Int) := by omega
            have hi2 : ¬ cap = i := by omega
            clear h' hflen hzl hzl2 HO hr
            go_wp2_with fail
            go_ret
            exact ⟨_, _, rfl, FIN.out, HCC.out.strict, FM.out, FT.out⟩
    · obtain rfl : k = m := by omega
      have HST := hide (show L.Pairwise ltC by have := HT.out; rwa [List.take_of_length_le (by rw [HL.out]; exact Nat.le_refl _)] at this)
      go_wp2
      go_ret
      exact ⟨_, L, rfl, HV.out.ext HX.out, HST.out, fun c => Iff.rfl, Touch.of_ext HX.out⟩

theorem compact_any {w : World} {v : Value} {L : List Cell} {base : Nat} (hm : L.length ≤ 100000) (hs : L.Pairwise leC) (hv : Own cellE w base 52 v L) :
    Calls Try.prog 29 #[v] w fun e w' => ∃ v' L', e = .returned v' ∧ Own cellE w' base 52 v' L' ∧ L'.Pairwise ltC ∧ (∀ c, c ∈ L' ↔ c ∈ L) ∧ Touch (fun k => v.ownBlock = some k) w w' := by
  obtain ⟨a, c, rfl⟩ := hv.slice
  by_cases h2 : 2 ≤ L.length
  · rcases hv.2 with ⟨h, h0⟩ | ⟨g, cap, cur, h, _⟩
    · omega
    · cases h
      refine (compact_some rfl hm h2 hs hv).mono ?_
      rintro e w' ⟨v', L', rfl, o, s, mm, t⟩
      exact ⟨v', L', rfl, o, s, mm, t.mono (fun k _ hk => by rw [hk]; rfl)⟩
  · have HV := hide hv
    have HST := hide (show L.Pairwise ltC by
      rcases L with _ | ⟨x, _ | ⟨y, r⟩⟩
      · exact List.Pairwise.nil
      · exact List.pairwise_singleton _ _
      · simp at h2)
    have hlt : (L.length : Int) < 2 := by omega
    clear hv hs h2
    go_enter Try.func29, Try.ntmps29
    go_wp2
    go_ret
    exact ⟨_, L, rfl, HV.out, HST.out, fun c => Iff.rfl, Touch.refl _ _⟩
end Go.Proofs.Ytkioohhjjdlhiaa
