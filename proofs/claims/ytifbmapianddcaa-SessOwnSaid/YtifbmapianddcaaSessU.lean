/- Walk of slices.SortedFunc over maps.Keys, and of the session's Tokens. -/
import Derived.Test.YtifbmapianddcaaSessN
set_option linter.all false
set_option linter.unusedVariables false
set_option linter.unusedSimpArgs false
namespace Go.Proofs.Ytifbmapianddcaa
open Go.RowKit

theorem collectU_any {w : World} {bm b N : Nat} {D : DataW Unit} (hm : w.cell? ⟨bm, 0, none⟩ = some (.map (some b))) (zm : bm < w.heap.size) (hown : w.ownsMap Try.prog 38 (plainElem Try.prog 3) b N D) (hK : ∀ ss, KeysPre D ss → ss.length ≤ 12) :
    Calls Try.prog 130 #[.func (.func 132) #[] #[.pointer (some ⟨bm, 0, none⟩)]] w fun e w' => ∃ v ss, e = .returned v ∧ KeysAll D ss ∧ Ext w w' ∧ Own u64E w' w.heap.size 38 v ss := by
  have eg : ∀ args w, (callFunc 132 args).run Try.prog w = .ok (.enter 132 args) w := enters_of Try.func132 (by kernel_rfl) rfl
  have xa : Ext w (w.alloc (.cells #[.slice none 0 0] 33)) := (Ext.refl w).alloc _
  have hb := hown.lt
  have HA := hide (appSeq_any (w := w) eg (keys1_iter ((xa.cell (p := ⟨bm, 0, none⟩) zm).trans hm) (ownsMap_touch hown (Touch.of_ext (S := fun _ => False) xa) (fun x => x)) (Nat.lt_of_lt_of_le zm xa.size)) (fun k hk => by subst hk; exact hb) (fun ss h => Nat.le_trans (hK ss h) (by decide)))
  clear eg xa hb hm hown hK
  go_enter Try.func130, Try.ntmps130
  go_wp2_with fail
  refine HA.out.mono ?_
  rintro e w1 ⟨v, ss, rfl, F, X, O⟩
  have HF := hide F
  have HX := hide X
  have HO := hide O
  clear F X O
  go_wp2_with fail
  go_ret
  exact ⟨v, ss, rfl, HF.out, HX.out, HO.out⟩

theorem KeysAll.perm {D : DataW Unit} {l l' : List Int} (h : KeysAll D l) (p : l'.Perm l) : KeysAll D l' := ⟨p.nodup_iff.2 h.1, fun x => by rw [p.mem_iff]; exact h.2 x⟩

theorem sortedFU_any {w : World} {bm b N q d : Nat} {D : DataW Unit} (hm : w.cell? ⟨bm, 0, none⟩ = some (.map (some b))) (zm : bm < w.heap.size) (hown : w.ownsMap Try.prog 38 (plainElem Try.prog 3) b N D) (hK : ∀ ss, KeysPre D ss → ss.length ≤ 12)
    (c1 : w.cell? ⟨q, 0, none⟩ = some (.pointer (some ⟨d, 0, none⟩))) (c2 : w.cell? ⟨d, 2, none⟩ = some (.map (some b))) (lq : q < w.heap.size) (ld : d < w.heap.size) :
    Calls Try.prog 90 #[.func (.func 132) #[] #[.pointer (some ⟨bm, 0, none⟩)], .func (.func 92) #[] #[.pointer (some ⟨q, 0, none⟩)]] w fun e w' => ∃ v ss, e = .returned v ∧ KeysAll D ss ∧ ss.Pairwise (fun x y => tokN D x ≤ tokN D y) ∧ Ext w w' ∧ Own u64E w' w.heap.size 38 v ss := by
  have HC := hide (collectU_any hm zm hown hK)
  have HM := hide hown
  have HK := hide hK
  have H1 := hide c1
  have H2 := hide c2
  have hb := hown.lt
  clear hm hown hK c1 c2
  go_enter Try.func90, Try.ntmps90
  go_wp2_with fail
  refine HC.out.mono ?_
  rintro e w1 ⟨v, ss, rfl, F, X, O⟩
  have HF := hide F
  have HX := hide X
  have HO := hide O
  have hl12 := HK.out ss ⟨F.1, fun x hx => (F.2 x).1 hx⟩
  have hsz := X.size
  have M1 := hide (ownsMap_touch HM.out (Touch.of_ext (S := fun _ => False) X) (fun x => x))
  have C1 := hide ((X.cell (p := ⟨q, 0, none⟩) lq).trans H1.out)
  have C2 := hide ((X.cell (p := ⟨d, 2, none⟩) ld).trans H2.out)
  have hv : (v = .slice none 0 0 ∧ ss = []) ∨ ∃ g c, v = .slice (some ⟨g, 0, none⟩) ss.length c ∧ w.heap.size ≤ g := by
    rcases O.2 with ⟨h1, h2⟩ | ⟨g, cap, cur, h1, h2, _⟩
    · exact .inl ⟨h1, List.length_eq_zero_iff.1 h2⟩
    · exact .inr ⟨g, cap, h1, h2⟩
  have HU := hide (fun x hx => ((F.2 x).1 hx).1)
  clear F X O
  rcases hv with ⟨rfl, rfl⟩ | ⟨g, c, rfl, hg⟩
  · go_wp2_with fail
    refine (sortU_nil _ _ _).mono ?_
    rintro e w2 ⟨rfl, rfl⟩
    go_wp2_with fail
    go_ret
    exact ⟨_, _, rfl, HF.out, List.Pairwise.nil, HX.out, HO.out⟩
  · go_wp2_with fail
    refine (sortOwn_any HO.out HU.out hl12 C1.out C2.out M1.out (by omega) (by omega) (by omega) (by omega) (by omega)).mono ?_
    rintro e w2 ⟨rfl, l', hp, hs, O2, t⟩
    have H := hide (show KeysAll D l' ∧ l'.Pairwise (fun x y => tokN D x ≤ tokN D y) ∧ Ext w w2 ∧ Own u64E w2 w.heap.size 38 (.slice (some ⟨g, 0, none⟩) ss.length c) l' from
      ⟨HF.out.perm hp, hs, ((Touch.of_ext (S := fun _ => False) HX.out).past t (fun k hk e => by omega)).ext, O2⟩)
    clear hp hs O2 t
    go_wp2_with fail
    go_ret
    exact ⟨_, l', rfl, H.out⟩
end Go.Proofs.Ytifbmapianddcaa
