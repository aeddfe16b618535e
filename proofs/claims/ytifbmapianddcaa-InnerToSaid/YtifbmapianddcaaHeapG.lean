/- The heap's calls, with its blocks in a set. -/
import Derived.Test.YtifbmapianddcaaHeapF
namespace Go.Proofs.Ytifbmapianddcaa

variable {S : Nat → Prop} {w : World} {h : Nat} {l : List Thing}

theorem hPush_is (hS : ∀ k, w.heap.size ≤ k → S k) (H : HeapIs S w h l) (hl : l.length ≤ 100000) (t : Thing) (ht : t.1 ∉ ids l) (hf : Fits64 .i64 t.1) :
    Calls Try.prog 113 #[.pointer (some ⟨h, 0, none⟩), .int .i64 t.1, keyV t.2] w fun e w' => e = .returned (.int .i64 0) ∧ ∃ l', HeapIs S w' h l' ∧ l'.Perm (t :: l) ∧ Touch S w w' := by
  obtain ⟨v, mb, h1, h2, h3⟩ := H
  refine (hPush_at h1 h2 hl t ht hf).mono ?_
  rintro e w' ⟨rfl, v', l', x1, x2, x3, x4, x5⟩
  refine ⟨rfl, l', ⟨v', mb, x1, x2, fun k hk => ?_⟩, x3, x4.mono fun k _ hk => h3 k hk⟩
  rcases hk with hk | hk | hk
  · exact h3 k (.inl hk)
  · rcases x5 k hk with hk | hk
    · exact h3 k (.inr (.inl hk))
    · exact hS k hk
  · exact h3 k (.inr (.inr hk))

theorem hLower_is (H : HeapIs S w h l) (hl : l.length ≤ 100000) {i : Nat} (hi : i < l.length) (t : Thing) (hid : t.1 = (tat l i).1) (hlt : lessB t.2 (tat l i).2 = true) :
    Calls Try.prog 115 #[.pointer (some ⟨h, 0, none⟩), .int .i64 t.1, keyV t.2] w fun e w' => e = .returned (.int .i64 0) ∧ ∃ l', HeapIs S w' h l' ∧ l'.Perm (l.set i t) ∧ Touch S w w' := by
  obtain ⟨v, mb, h1, h2, h3⟩ := H
  refine (hLower_at h1 h2 hl hi t hid hlt).mono ?_
  rintro e w' ⟨rfl, l', x1, x2, x3, x4⟩
  exact ⟨rfl, l', ⟨v, mb, x1, x4, h3⟩, x3, x2.mono fun k _ hk => h3 k hk⟩

theorem hPop_is (H : HeapIs S w h l) (hl : l.length ≤ 100000) (h0 : 0 < l.length) :
    Calls Try.prog 117 #[.pointer (some ⟨h, 0, none⟩)] w fun e w' => e = .returned (.tuple #[.int .i64 (tat l 0).1, keyV (tat l 0).2, .bool true]) ∧ ∃ l', HeapIs S w' h l' ∧ (tat l 0 :: l').Perm l ∧ Touch S w w' := by
  obtain ⟨v, mb, h1, h2, h3⟩ := H
  refine (hPop_at h1 h2 hl h0).mono ?_
  rintro e w' ⟨rfl, v', l', x1, x2, x3, x4, x5⟩
  exact ⟨rfl, l', ⟨v', mb, x1, x2, fun k hk => h3 k (hk.imp id (Or.imp (fun z => by rw [← x5]; exact z) id))⟩, x3, x4.mono fun k _ hk => h3 k hk⟩

theorem hPop_nil (H : HeapIs S w h []) : Calls Try.prog 117 #[.pointer (some ⟨h, 0, none⟩)] w fun e w' => e = .returned (.tuple #[.int .i64 0, .agg #[.int .u64 0, .int .u64 0, .int .i64 0, .int .i64 0], .bool false]) ∧ Ext w w' := by
  obtain ⟨v, mb, h1, _, _⟩ := H
  exact hPop_none h1

theorem HeapIs.ok (H : HeapIs S w h l) : HeapOk l := by obtain ⟨_, _, _, h2, _⟩ := H; exact h2
end Go.Proofs.Ytifbmapianddcaa
