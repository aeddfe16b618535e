/- The session's Tokens: the open ones, in the order in which they were opened. -/
import Derived.Test.YtifbmapianddcaaSessU
set_option linter.all false
set_option linter.unusedVariables false
set_option linter.unusedSimpArgs false
namespace Go.Proofs.Ytifbmapianddcaa
open Go.RowKit

theorem len_of_nodup : ∀ (l l' : List Int), l.Nodup → (∀ x ∈ l, x ∈ l') → l.length ≤ l'.length
  | [], _, _, _ => Nat.zero_le _
  | x :: r, l', h, hs => by
    have hx := hs x (by simp)
    have h1 := len_of_nodup r (l'.erase x) (List.nodup_cons.1 h).2 (fun y hy => (List.mem_erase_of_ne (fun e : y = x => (List.nodup_cons.1 h).1 (by rw [← e]; exact hy))).2 (hs y (by simp [hy])))
    have h2 := List.length_erase_of_mem hx
    have h3 := List.length_pos_of_mem hx
    simp only [List.length_cons]
    omega

theorem idxO_at {l : List Int} (h : l.Nodup) (i : Nat) (hi : i < l.length) : idxO l l[i] = some (i : Int) := by
  unfold idxO
  have : l.findIdx? (· == l[i]) = some i := by
    rw [List.findIdx?_eq_some_iff_getElem]
    refine ⟨hi, by simp, fun j hj => ?_⟩
    simp only [beq_iff_eq]
    intro e
    have := (List.getElem_inj h).1 e
    omega
  rw [this]; rfl

/-- Along the open ones the places among all ascend. -/
theorem now_asc {ever now : List Int} (hs : Sound ever now) {tk : Int → Int} (ht : ∀ x i, nowO ever now x = some i → tk x = i) : now.Pairwise (fun x y => tk x < tk y) := by
  have h1 : ever.Pairwise (fun x y => ∀ i j, idxO ever x = some i → idxO ever y = some j → i < j) := by
    rw [List.pairwise_iff_getElem]
    intro i j hi hj hij a b ha hb
    rw [idxO_at hs.nodup i hi] at ha
    rw [idxO_at hs.nodup j hj] at hb
    cases ha; cases hb; omega
  have h2 := h1.sublist hs.sub
  refine h2.imp_of_mem (fun {x y} hx hy h => ?_)
  have ex : ∃ i, idxO ever x = some i := Option.isSome_iff_exists.1 (by rw [idxO_some]; simpa using hs.mem x hx)
  have ey : ∃ i, idxO ever y = some i := Option.isSome_iff_exists.1 (by rw [idxO_some]; simpa using hs.mem y hy)
  obtain ⟨i, hi⟩ := ex
  obtain ⟨j, hj⟩ := ey
  rw [ht x i (by unfold nowO; rw [if_pos hx]; exact hi), ht y j (by unfold nowO; rw [if_pos hy]; exact hj)]
  exact h i j hi hj

theorem asc_unique {tk : Int → Int} {ss now : List Int} (ha : now.Pairwise (fun x y => tk x < tk y)) (hn : now.Nodup) (h1 : ss.Nodup) (h2 : ∀ x, x ∈ ss ↔ x ∈ now) (h3 : ss.Pairwise (fun x y => tk x ≤ tk y)) : ss = now := by
  have hp : ss.Perm now := (List.perm_ext_iff_of_nodup h1 hn).2 h2
  refine List.Perm.eq_of_pairwise (le := fun x y => tk x ≤ tk y) (fun x y hx hy a b => ?_) h3 (ha.imp (fun h => Int.le_of_lt h)) hp
  obtain ⟨i, hi, rfl⟩ := List.getElem_of_mem ((h2 x).1 hx)
  obtain ⟨j, hj, rfl⟩ := List.getElem_of_mem hy
  have hh := List.pairwise_iff_getElem.1 ha
  rcases Nat.lt_trichotomy i j with h | h | h
  · have := hh i j hi hj h; omega
  · subst h; rfl
  · have := hh j i hj hi h; omega

theorem mKeysU_any (mb : Option Nat) (w : World) : Calls Try.prog 91 #[.map mb] w fun e w' => e = .returned (.func (.func 132) #[] #[.pointer (some ⟨w.heap.size, 0, none⟩)]) ∧ w.alloc (.cells #[.map mb] 147) = w' := by
  go_enter Try.func91, Try.ntmps91
  go_wp2
  go_ret
  exact ⟨rfl, rfl⟩

theorem sTokens_any {w : World} {d : Nat} {v : Value} {n e : Nat} {most : Int} {row ever now : List Int} (h : DeskAt w d v n e most row ever now) (hu : ∀ x ∈ now, U64 x) (hl : now.length ≤ 12) :
    Calls Try.prog 51 #[.pointer (some ⟨d, 0, none⟩)] w fun r w' => ∃ v', r = .returned v' ∧ Ext w w' ∧ Own u64E w' w.heap.size 38 v' now := by
  obtain ⟨D, hown, hsz, hf⟩ := h.mnow
  have hmem : ∀ x, Maps.has D (.int .u64 x) = true ↔ x ∈ now := fun x => by rw [(hf x).1, nowO_some h.sound.mem]; simp
  have hK : ∀ ss, KeysPre D ss → ss.length ≤ 12 := fun ss hs => Nat.le_trans (len_of_nodup ss now hs.1 (fun x hx => (hmem x).1 (hs.2 x hx).2)) hl
  have hasc := now_asc (tk := tokN D) h.sound (fun x i hi => by unfold tokN; rw [(hf x).2 i hi])
  have HU := hide (fun ss (F : KeysAll D ss) (P : ss.Pairwise (fun x y => tokN D x ≤ tokN D y)) => asc_unique hasc h.sound.nodup' F.1 (fun x => by rw [F.2 x, hmem x]; exact ⟨fun a => a.2, fun a => ⟨hu x a, a⟩⟩) P)
  have HS := hide (fun (w2 : World) (hx : Ext w w2) (bm q : Nat) (hm : w2.cell? ⟨bm, 0, none⟩ = some (.map (some n))) (zm : bm < w2.heap.size) (c1 : w2.cell? ⟨q, 0, none⟩ = some (.pointer (some ⟨d, 0, none⟩))) (lq : q < w2.heap.size) =>
    sortedFU_any hm zm (ownsMap_touch hown (Touch.of_ext (S := fun _ => False) hx) (fun x => x)) hK c1 ((hx.cell (p := ⟨d, 2, none⟩) h.blk.lt).trans (h.blk.cell 2)) lq (Nat.lt_of_lt_of_le h.blk.lt hx.size))
  have c2 : w.cell? ⟨d, 2, none⟩ = some (.map (some n)) := h.blk.cell 2
  have ld : d < w.heap.size := h.blk.lt
  clear hown hsz hf hmem hK hasc h hu hl
  go_enter Try.func51, Try.ntmps51
  go_wp2_with fail
  refine (mKeysU_any _ _).mono ?_
  rintro e0 w2 ⟨rfl, hw2⟩
  obtain ⟨w1, hw1⟩ : ∃ w1, w.alloc (.cells #[.pointer (some ⟨d, 0, none⟩)] 80) = w1 := ⟨_, rfl⟩
  rw [hw1] at hw2 ⊢
  have x1 : Ext w w1 := by rw [← hw1]; exact (Ext.refl w).alloc _
  have z1 : w1.heap.size = w.heap.size + 1 := by rw [← hw1]; simp
  have k1 : w1.cell? ⟨w.heap.size, 0, none⟩ = some (.pointer (some ⟨d, 0, none⟩)) := by rw [← hw1]; simp
  have x2 : Ext w1 w2 := by rw [← hw2]; exact (Ext.refl w1).alloc _
  have z2 : w2.heap.size = w1.heap.size + 1 := by rw [← hw2]; simp
  have k2 : w2.cell? ⟨w1.heap.size, 0, none⟩ = some (.map (some n)) := by rw [← hw2]; simp
  have X := hide (x1.trans x2)
  have HC := hide (HS.out w2 X.out w1.heap.size w.heap.size k2 (by omega) ((x2.cell (p := ⟨w.heap.size, 0, none⟩) (by show w.heap.size < _; omega)).trans k1) (by omega))
  clear hw1 hw2 x1 x2 k1 k2 z1 z2
  go_wp2_with fail
  refine HC.out.mono ?_
  rintro e1 w3 ⟨v', ss, rfl, F, P, X3, O⟩
  have hs := HU.out ss F P
  subst hs
  have H := hide (show Ext w w3 ∧ Own u64E w3 w.heap.size 38 v' ss from ⟨X.out.trans X3, Own.lower O X.out.size⟩)
  clear F P X3 O
  go_wp2_with fail
  go_ret
  exact ⟨v', rfl, H.out⟩
end Go.Proofs.Ytifbmapianddcaa
