/- What is plain in StarLeast. -/
import Derived.Test.YtifbmapianddcaaStarV
import Derived.Test.YtifbmapianddcaaRouteD
set_option linter.all false
set_option linter.unusedVariables false
set_option linter.unusedSimpArgs false
namespace Go.Proofs.Ytifbmapianddcaa
open Go.RowKit

theorem PathN.at {G : Net} {p : List Nat} (h : PathN G p) : (∀ (i v : Nat), p[i]? = some v → G.op v = true) ∧ (∀ (i u v : Nat), p[i]? = some u → p[i + 1]? = some v → v ∈ G.adj u) ∧ 0 < p.length := by
  induction h with
  | one ho =>
    refine ⟨fun i v hv => ?_, fun i u v _ hv => ?_, by simp⟩
    · cases i with
      | zero => simp at hv; rw [← hv]; exact ho
      | succ i => simp at hv
    · simp at hv
  | more ho ha h ih =>
    refine ⟨fun i v hv => ?_, fun i u v hu hv => ?_, by simp⟩
    · cases i with
      | zero => simp at hv; rw [← hv]; exact ho
      | succ i => exact ih.1 i v (by simpa using hv)
    · cases i with
      | zero => simp at hu hv; rw [← hu, ← hv]; exact ha
      | succ i => exact ih.2.1 i u v (by simpa using hu) (by simpa using hv)

section
variable {W H : Int} {l : List Int}

theorem map_getD {p : List Nat} {k v : Nat} (h : p[k]? = some v) : (p.map (cellV W)).getD k (0, 0) = cellV W v := by
  rw [List.getD_eq_getElem?_getD, List.getElem?_map, h]; rfl

theorem told_good (L : LandP W H l 0 0 W H) {s t : Nat} {p : List Nat} {c k : Int} (h : Told (mapNet L) s t p c k) (hk : k ≤ 100000) : GoodPath W H l (p.map (cellV W)) := by
  obtain ⟨h1, h2, h3⟩ := h.path.at
  have hin : ∀ v, (mapNet L).op v = true → inB W H (cellV W v).1 (cellV W v).2 = true ∧ idxN W (cellV W v) = v ∧ 0 < l.getD v 0 := fun v hv => by
    obtain ⟨a, b⟩ := (op_iff L v).1 hv
    have hb := L.v_in a
    have wh := L.wh
    refine ⟨inB_true.2 (by unfold cellV; omega), ?_, b⟩
    exact idx_v L.wh.1 v
  refine ⟨by rw [List.length_map]; exact h3, by rw [List.length_map]; have := h.few; omega, fun i hi => ?_, fun i h0 hi => ?_⟩
  · rw [List.length_map] at hi
    rw [map_getD (List.getElem?_eq_getElem hi)]
    have := hin _ (h1 i _ (List.getElem?_eq_getElem hi))
    rw [this.2.1]
    exact ⟨this.1, this.2.2⟩
  · rw [List.length_map] at hi
    obtain ⟨j, rfl⟩ : ∃ j, i = j + 1 := ⟨i - 1, by omega⟩
    have hj : j < p.length := by omega
    rw [map_getD (List.getElem?_eq_getElem hi), Nat.add_sub_cancel, map_getD (List.getElem?_eq_getElem hj)]
    have ha := h2 j _ _ (List.getElem?_eq_getElem hj) (List.getElem?_eq_getElem hi)
    obtain ⟨q, hq, he⟩ := List.mem_map.1 ha
    obtain ⟨d, hd, ho, rfl⟩ := mem_nbC.1 hq
    have hb := L.in_ (open_has ho).1
    have : cellV W p[j + 1] = (vx W p[j] + dirX d, vy W p[j] + dirY d) := by
      rw [← he]
      unfold cellV
      rw [vx_idx hb.1 hb.2.1 hb.2.2.1, vy_idx hb.1 hb.2.1 hb.2.2.1]
    rw [this]
    refine List.mem_map.2 ⟨((d : Int), _), ?_, rfl⟩
    exact List.mem_iff_getElem?.2 ⟨d, fourC_at _ _ hd⟩

theorem told_cost (L : LandP W H l 0 0 W H) {s t : Nat} {p : List Nat} {c k : Int} (h : Told (mapNet L) s t p c k) : sumC W l (p.map (cellV W)) p.length = c := by
  obtain ⟨h1, h2, h3⟩ := h.path.at
  have hidx : ∀ v, (mapNet L).op v = true → idxN W (cellV W v) = v := fun v hv => by
    have hb := L.v_in ((op_iff L v).1 hv).1
    exact idx_v L.wh.1 v
  have key : ∀ j, j < p.length → sumC W l (p.map (cellV W)) (j + 1) = ((p.tail.take j).map (fun v => l.getD v 0)).sum := by
    intro j
    induction j with
    | zero => intro _; simp [sumC]
    | succ j ih =>
      intro hj
      have hs : sumC W l (p.map (cellV W)) (j + 1 + 1) = sumC W l (p.map (cellV W)) (j + 1) + l.getD (idxN W ((p.map (cellV W)).getD (j + 1) (0, 0))) 0 := by
        rw [sumC, if_neg (by omega)]
      rw [hs, ih (by omega), map_getD (List.getElem?_eq_getElem hj), hidx _ (h1 _ _ (List.getElem?_eq_getElem hj))]
      have ht : p.tail[j]? = some p[j + 1] := by rw [List.getElem?_tail]; exact List.getElem?_eq_getElem hj
      rw [List.take_add_one, ht, List.map_append, Option.toList_some, List.map_cons, List.map_nil, sum_snoc]
  obtain ⟨j, hj⟩ : ∃ j, p.length = j + 1 := ⟨p.length - 1, by omega⟩
  rw [hj, key j (by omega), h.cost]
  unfold costN
  rw [List.take_of_length_le (by rw [List.length_tail]; omega)]
  rfl

theorem srch_bad {x y tx ty b : Int} {p : List Nat} {c k e : Int} (hs : Srch W H l x y tx ty b p c k e) (he : lookE W H l.length 0 0 W H x y ≠ 0) (hb : 0 ≤ b) : p = [] ∧ e = lookE W H l.length 0 0 W H x y := by
  rcases hs with ⟨h1, h2, _, _, h5⟩ | ⟨h1, L, _⟩
  · refine ⟨h2, ?_⟩
    rw [h5]
    unfold findE lookE
    unfold lookE at he
    split at he
    · next hc =>
      rw [if_pos hc, if_pos hc]
      have hin : ¬ inB W H x y = true := fun h => he (by
        have a := inB_true.1 h
        have wh := mayB_true.1 (checkE_ok.1 hc).1
        rw [if_pos ⟨fitsR_true.2 (by omega), hasB_true.2 (by omega)⟩])
      rw [if_neg (fun h => hin h.1)]
      split at he
      · exact absurd rfl he
      · next hh => rw [if_neg hh]
    · next hc => rw [if_neg hc, if_neg hc]
  · obtain ⟨a1, a2, a3, a4⟩ := findE_ok.1 h1
    have a := inB_true.1 a2
    have wh := mayB_true.1 (checkE_ok.1 a1).1
    exact absurd (lookE_ok.2 ⟨(checkE_ok.1 a1).1, (checkE_ok.1 a1).2, fitsR_true.2 (by omega), hasB_true.2 (by omega)⟩) he

theorem srch_out {x y tx ty b : Int} {p : List Nat} {c k e : Int} (hs : Srch W H l x y tx ty b p c k e) (he : checkE W H l.length = 0) (ht : inB W H tx ty = false) : p = [] ∧ e = 10 := by
  rcases hs with ⟨h1, h2, _, _, h5⟩ | ⟨h1, L, _⟩
  · refine ⟨h2, ?_⟩
    rw [h5]
    unfold findE
    rw [if_pos he, if_neg (fun h => by rw [ht] at h; cases h.2)]
  · rw [(findE_ok.1 h1).2.2.1] at ht; cases ht
end
theorem own_cell10 {α : Type} {E : Enc α} {w : World} {base g n c : Nat} {e : TypeId} {l : List α} (h : Own E w base e (.slice (some ⟨g, 0, none⟩) n c) l) {k : Nat} {y : α} (hk : l[k]? = some y) {j : Nat} {u : Value} (hu : (E.cells y)[j]? = some u) : w.cell? ⟨g, k * E.size + j, none⟩ = some u ∧ w.frozen? ⟨g, k * E.size + j, none⟩ = false := by
  have h1 := (Reads.cells h.reads).2.2 k y hk j u hu
  rw [Nat.zero_add] at h1
  obtain ⟨a', c', e'⟩ := h.slice
  have en : n = l.length := by injection e'
  subst en
  have h' : w.ownsRow base e E.size (.slice (some ⟨g, 0, none⟩) l.length c) l.length (l.flatMap E.cells) := h
  exact ⟨h1, h'.frozenAt _⟩

theorem own_pos10 {α : Type} {E : Enc α} {w : World} {base : Nat} {e : TypeId} {v : Value} {l : List α} (h : Own E w base e v l) (hl : 0 < l.length) : ∃ g c, v = .slice (some ⟨g, 0, none⟩) l.length c ∧ base ≤ g ∧ g < w.heap.size := by
  rcases h.2 with ⟨_, hn⟩ | ⟨g, cap, cur, hv, hb, hg, _⟩
  · omega
  · exact ⟨g, cap, hv, hb, lt_of_block hg⟩

theorem own_cap {α : Type} {E : Enc α} {w : World} {base : Nat} {e : TypeId} {a : Option Addr} {n c : Nat} {l : List α} (h : Own E w base e (.slice a n c) l) : n ≤ c := by
  rcases h.2 with ⟨h1, _⟩ | ⟨g, cap, cur, h1, _, _, h2, _⟩
  · injection h1 with _ h1 h2; omega
  · injection h1 with _ h1 h3
    subst h1 h3
    exact h2
end Go.Proofs.Ytifbmapianddcaa
