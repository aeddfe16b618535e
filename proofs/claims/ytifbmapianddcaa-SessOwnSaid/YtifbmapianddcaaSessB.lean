/- Walks of sess' Draw, Close and Open, and of the law's 'in'. -/
import Derived.Test.YtifbmapianddcaaDel64
set_option linter.all false
set_option linter.unusedVariables false
set_option linter.unusedSimpArgs false
namespace Go.Proofs.Ytifbmapianddcaa
open Go.RowKit

/-- What became of a desk behind a call. -/
def Turned (w : World) (d : Nat) (v : Value) (n e : Nat) (most : Int) (row ever now : List Int) (w' : World) : Prop :=
  ∃ v', DeskAt w' d v' n e most row ever now ∧ Touch (Foot d v n e) w w' ∧ ∀ k, v'.ownBlock = some k → v.ownBlock = some k ∨ w.heap.size ≤ k

section
variable {w : World} {d : Nat} {v : Value} {n e : Nat} {most : Int} {row ever now : List Int}

theorem desk_row2 (h : DeskAt w d v n e most row ever now) {w9 : World} {v' : Value} {row' : List Int} (o : Own u64E w9 0 38 v' row') (t : Touch (fun k => v.ownBlock = some k) w w9)
    (hv : ∀ k, v'.ownBlock = some k → v.ownBlock = some k ∨ w.heap.size ≤ k) (wf' : ∀ x ∈ row', U64 x) :
    DeskAt (w9.setCell ⟨d, 1, none⟩ v') d v' n e most row' ever now ∧ Touch (Foot d v n e) w (w9.setCell ⟨d, 1, none⟩ v') := by
  have hd := h.vd
  have blk9 := h.blk.touch t hd
  have tset : ∀ S : Nat → Prop, S d → Touch S w9 (w9.setCell ⟨d, 1, none⟩ v') := fun S hS => (Touch.refl S w9).setCell (.inl hS) _
  have hlt := h.blk.lt
  refine ⟨⟨?_, ?_, wf', ?_, ?_, h.ne, h.sound⟩, ?_⟩
  · exact blk9.set_ 1 v'
  · refine o.touch (tset (fun k => k = d) rfl) (fun k hk he => ?_)
    subst he
    rcases hv k hk with h1 | h1
    · exact hd h1
    · omega
  · exact (h.mnow.touch t h.vn).touch (tset (fun k => k = d) rfl) (fun x => h.dn x.symm)
  · exact (h.mever.touch t h.ve).touch (tset (fun k => k = d) rfl) (fun x => h.de x.symm)
  · exact (t.mono (fun k _ hk => .inr (.inl hk))).trans (tset _ (.inl rfl))

theorem desk_row (h : DeskAt w d v n e most row ever now) {w9 : World} {v' : Value} {row' : List Int} (o : Own u64E w9 0 38 v' row') (t : Touch (fun k => v.ownBlock = some k) w w9)
    (hv : ∀ k, v'.ownBlock = some k → v.ownBlock = some k ∨ w.heap.size ≤ k) (wf' : ∀ x ∈ row', U64 x) : Turned w d v n e most row' ever now (w9.setCell ⟨d, 1, none⟩ v') :=
  have q := desk_row2 h o t hv wf'
  ⟨v', q.1, q.2, hv⟩

theorem sDraw_full (h : DeskAt w d v n e most row ever now) (hf : (1024 : Int) ≤ (row.length : Int)) (x : Int) : Calls Try.prog 40 #[.pointer (some ⟨d, 0, none⟩), .int .u64 x] w fun r w' => r = .returned (.int .i64 16) ∧ w = w' := by
  obtain ⟨a, c, rfl⟩ := h.own.slice
  have c1 : w.cell? ⟨d, 1, none⟩ = some (.slice a row.length c) := h.blk.cell 1
  clear h
  go_enter Try.func40, Try.ntmps40
  go_wp2
  go_ret
  exact ⟨rfl, rfl⟩

set_option maxRecDepth 100000 in
theorem sDraw_ok (h : DeskAt w d v n e most row ever now) (hf : (row.length : Int) < 1024) (x : Int) (hx : U64 x) : Calls Try.prog 40 #[.pointer (some ⟨d, 0, none⟩), .int .u64 x] w fun r w' => r = .returned (.int .i64 0) ∧ Turned w d v n e most (row ++ [x]) ever now w' := by
  obtain ⟨a, c, rfl⟩ := h.own.slice
  have c1 : w.cell? ⟨d, 1, none⟩ = some (.slice a row.length c) := h.blk.cell 1
  have H := hide h
  have HX := hide hx
  have hlt := h.blk.lt
  clear h hx
  go_enter Try.func40, Try.ntmps40
  go_wp2_with (at_builtin; refine wpList_app_at u64E T_u64s rfl _ _ rfl 0 _ _ row rfl H.out.own x _ _ rfl _ rfl rfl (by omega) (by omega) (by omega) ?_; intro g9 c9 w9 o9 t9 l9; have b9 := H.out.blk.touch t9 H.out.vd; have d9 : w9.cell? ⟨d, 1, none⟩ = some (.slice a row.length c) := b9.cell 1; have f9 : w9.frozen? ⟨d, 1, none⟩ = false := b9.frozen 1; have O9 := hide o9; have T9 := hide t9; have L9 := hide l9; clear o9 t9 l9 b9)
  go_ret
  refine ⟨rfl, desk_row H.out O9.out T9.out (fun k hk => ?_) (fun y hy => ?_)⟩
  · simp only [Value.ownBlock, Option.some.injEq] at hk
    subst hk
    exact L9.out
  · rcases List.mem_append.1 hy with hy | hy
    · exact H.out.wf y hy
    · simp at hy; subst hy; exact HX.out

theorem sClose_no (h : DeskAt w d v n e most row ever now) (x : Int) (hx : U64 x) (hn : x ∉ now) : Calls Try.prog 44 #[.pointer (some ⟨d, 0, none⟩), .int .u64 x] w fun r w' => r = .returned (.int .i64 19) ∧ w = w' := by
  have H := hide h
  have HX := hide hx
  have hb := hide (show decide (x ∈ now) = false by simpa using hn)
  clear h hx hn
  go_enter Try.func44, Try.ntmps44
  go_wp2_with (go_at_call 46; refine (sHas_any H.out x HX.out).mono ?_; rintro r w' ⟨rfl, rfl⟩; rw [hb.out])
  go_ret
  exact ⟨rfl, rfl⟩

theorem nowO_erase (hs : Sound ever now) (x y : Int) : (if y = x then none else nowO ever now y) = nowO ever (now.erase x) y := by
  unfold nowO
  by_cases hy : y = x
  · subst hy
    rw [if_pos rfl, if_neg]
    rw [hs.nodup'.mem_erase_iff]; simp
  · rw [if_neg hy]
    have : y ∈ now.erase x ↔ y ∈ now := by rw [hs.nodup'.mem_erase_iff]; simp [hy]
    simp only [this]

theorem sClose_ok (h : DeskAt w d v n e most row ever now) (x : Int) (hx : U64 x) (hn : x ∈ now) : Calls Try.prog 44 #[.pointer (some ⟨d, 0, none⟩), .int .u64 x] w fun r w' => r = .returned (.int .i64 0) ∧ Turned w d v n e most row ever (now.erase x) w' := by
  have H := hide h
  have HX := hide hx
  have hb := hide (show decide (x ∈ now) = true by simpa using hn)
  have c2 : w.cell? ⟨d, 2, none⟩ = some (.map (some n)) := h.blk.cell 2
  have HN := hide hn
  have HI := hide (show (nowO ever now x).isSome = true by rw [nowO_some h.sound.mem]; exact hb.out)
  clear h hx hn
  go_enter Try.func44, Try.ntmps44
  go_wp2_with (first
    | (go_at_call 46; refine (sHas_any H.out x HX.out).mono ?_; rintro r w' ⟨rfl, rfl⟩; rw [hb.out])
    | (at_delete; refine wpList_del _ rfl _ _ rfl n _ _ rfl H.out.mnow x rfl HX.out HI.out ?_; intro w9 m9 t9; have M9 := hide m9; have T9 := hide t9; clear m9 t9))
  go_ret
  have h := H.out
  refine ⟨rfl, v, ⟨h.blk.touch T9.out h.dn, h.own.touch T9.out (fun k hk he => by subst he; exact h.vn hk), h.wf, ?_, h.mever.touch T9.out (fun x => h.ne x.symm), h.ne, ⟨h.sound.nodup, List.Sublist.trans List.erase_sublist h.sound.sub⟩⟩, T9.out.mono (fun k _ hk => .inr (.inr (.inl hk))), fun k hk => .inl hk⟩
  have := M9.out.congr (nowO_erase h.sound x)
  rwa [List.length_erase_of_mem HN.out]
end

def U64sAt (w : World) (b off : Nat) (l : List Int) : Prop := ∀ k (h : k < l.length), w.cell? ⟨b, off + k, none⟩ = some (.int .u64 l[k])
theorem Reads.u64s {w : World} {b off cap : Nat} {n : Nat} {l : List Int} (h : Reads u64E w (.slice (some ⟨b, off, none⟩) n cap) l) : b < w.heap.size ∧ U64sAt w b off l := by
  rcases h with ⟨hv, _⟩ | ⟨b', off', cap', hv, hb, hc⟩
  · simp at hv
  · simp only [Value.slice.injEq, Option.some.injEq, Addr.mk.injEq] at hv
    obtain ⟨⟨rfl, rfl, _⟩, _, _⟩ := hv
    refine ⟨hb, fun k hk => ?_⟩
    have := hc k l[k] (List.getElem?_eq_getElem hk) 0 (.int .u64 l[k]) rfl
    simpa [u64E] using this
end Go.Proofs.Ytifbmapianddcaa
