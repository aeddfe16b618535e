/- A desk and a desk of the reference's beside it. -/
import Derived.Test.YtifbmapianddcaaTokC
import Derived.Test.YtifbmapianddcaaSessV
import Derived.Test.YtifbmapianddcaaSessD
set_option linter.all false
set_option linter.unusedVariables false
set_option linter.unusedSimpArgs false
namespace Go.Proofs.Ytifbmapianddcaa
open Go.RowKit

def Pair (w : World) (d n e d2 : Nat) (most : Int) (row ever now row2 ever2 now2 : List Int) (F : Nat → Prop) : Prop :=
  ∃ v vr vn ve, DeskAt w d v n e most row ever now ∧ RefAt w d2 most vr vn ve row2 ever2 now2 ∧ (∀ k, F k ↔ (Foot d v n e k ∨ FootR d2 vr vn ve k)) ∧ (∀ k, Foot d v n e k → ¬ FootR d2 vr vn ve k)

/-- What became of a pair. -/
def Went (w : World) (F : Nat → Prop) (d n e d2 : Nat) (most : Int) (row ever now row2 ever2 now2 : List Int) (w' : World) : Prop :=
  ∃ F', Pair w' d n e d2 most row ever now row2 ever2 now2 F' ∧ Touch F w w' ∧ ∀ k, F' k → F k ∨ w.heap.size ≤ k

section
variable {w w' : World} {d n e d2 : Nat} {most : Int} {row ever now row2 ever2 now2 row' ever' now' : List Int} {F : Nat → Prop}
theorem Pair.touch {S : Nat → Prop} (h : Pair w d n e d2 most row ever now row2 ever2 now2 F) (t : Touch S w w') (hs : ∀ k, F k → ¬ S k) : Pair w' d n e d2 most row ever now row2 ever2 now2 F := by
  obtain ⟨v, vr, vn, ve, D, R, hF, ha⟩ := h
  exact ⟨v, vr, vn, ve, D.touch t (fun k hk => hs k ((hF k).2 (.inl hk))), R.touch t (fun k hk => hs k ((hF k).2 (.inr hk))), hF, ha⟩
theorem Pair.ext (h : Pair w d n e d2 most row ever now row2 ever2 now2 F) (x : Ext w w') : Pair w' d n e d2 most row ever now row2 ever2 now2 F := h.touch (Touch.of_ext (S := fun _ => False) x) (fun _ _ x => x)
theorem Pair.lt (h : Pair w d n e d2 most row ever now row2 ever2 now2 F) {k : Nat} (hk : F k) : k < w.heap.size := by
  obtain ⟨v, vr, vn, ve, D, R, hF, ha⟩ := h
  exact ((hF k).1 hk).elim (fun x => D.foot_lt x) (fun x => R.lt x)
theorem Pair.sound (h : Pair w d n e d2 most row ever now row2 ever2 now2 F) : Sound ever now := by
  obtain ⟨v, vr, vn, ve, D, R, hF, ha⟩ := h
  exact D.sound

theorem Pair.desk (h : Pair w d n e d2 most row ever now row2 ever2 now2 F) {f : Nat} {args : Array Value} {Rs : Ending → Prop}
    (hc : ∀ v, DeskAt w d v n e most row ever now → Calls Try.prog f args w fun x w' => Rs x ∧ Turned w d v n e most row' ever' now' w') :
    Calls Try.prog f args w fun x w' => Rs x ∧ Went w F d n e d2 most row' ever' now' row2 ever2 now2 w' := by
  obtain ⟨v, vr, vn, ve, D, R, hF, ha⟩ := h
  refine (hc v D).mono fun x w' ⟨hx, v', D', t, l⟩ => ⟨hx, _, ⟨v', vr, vn, ve, D', R.touch t (fun k hk hf => ha k hf hk), fun k => Iff.rfl, fun k hk hr => ?_⟩, t.mono (fun k _ hk => (hF k).2 (.inl hk)), fun k hk => ?_⟩
  · rcases hk with hk | hk | hk | hk
    · exact ha k (.inl hk) hr
    · exact (l k hk).elim (fun x => ha k (.inr (.inl x)) hr) (fun x => by have := R.lt hr; omega)
    · exact ha k (.inr (.inr (.inl hk))) hr
    · exact ha k (.inr (.inr (.inr hk))) hr
  · rcases hk with (hk | hk | hk | hk) | hk
    · exact .inl ((hF k).2 (.inl (.inl hk)))
    · exact (l k hk).imp (fun x => (hF k).2 (.inl (.inr (.inl x)))) id
    · exact .inl ((hF k).2 (.inl (.inr (.inr (.inl hk)))))
    · exact .inl ((hF k).2 (.inl (.inr (.inr (.inr hk)))))
    · exact .inl ((hF k).2 (.inr hk))
theorem Pair.desk_ext (h : Pair w d n e d2 most row ever now row2 ever2 now2 F) {f : Nat} {args : Array Value} {Rs : Ending → Prop}
    (hc : ∀ v, DeskAt w d v n e most row ever now → Calls Try.prog f args w fun x w' => Rs x ∧ Ext w w') :
    Calls Try.prog f args w fun x w' => Rs x ∧ Went w F d n e d2 most row ever now row2 ever2 now2 w' := by
  have h' := h
  obtain ⟨v, vr, vn, ve, D, R, hF, ha⟩ := h
  exact (hc v D).mono fun x w' ⟨hx, t⟩ => ⟨hx, _, h'.ext t, Touch.of_ext t, fun k hk => .inl hk⟩
theorem Pair.desk_same (h : Pair w d n e d2 most row ever now row2 ever2 now2 F) {f : Nat} {args : Array Value} {Rs : Ending → Prop}
    (hc : ∀ v, DeskAt w d v n e most row ever now → Calls Try.prog f args w fun x w' => Rs x ∧ w = w') :
    Calls Try.prog f args w fun x w' => Rs x ∧ Went w F d n e d2 most row ever now row2 ever2 now2 w' :=
  h.desk_ext fun v D => (hc v D).mono fun x w' ⟨hx, t⟩ => ⟨hx, t ▸ Ext.refl w⟩
theorem Pair.ref (h : Pair w d n e d2 most row ever now row2 ever2 now2 F) {f : Nat} {args : Array Value} {Rs : Ending → Prop}
    (hc : ∀ vr vn ve, RefAt w d2 most vr vn ve row2 ever2 now2 → Calls Try.prog f args w fun x w' => Rs x ∧ TurnedR w d2 most vr vn ve row' ever' now' w') :
    Calls Try.prog f args w fun x w' => Rs x ∧ Went w F d n e d2 most row ever now row' ever' now' w' := by
  obtain ⟨v, vr, vn, ve, D, R, hF, ha⟩ := h
  refine (hc vr vn ve R).mono fun x w' ⟨hx, vr', vn', ve', R', t, l⟩ => ⟨hx, _, ⟨v, vr', vn', ve', D.touch t (fun k hk hf => ha k hk hf), R', fun k => Iff.rfl, fun k hk hr => ?_⟩, t.mono (fun k _ hk => (hF k).2 (.inr hk)), fun k hk => ?_⟩
  · exact (l k hr).elim (fun x => ha k hk x) (fun x => by have := D.foot_lt hk; omega)
  · rcases hk with hk | hk
    · exact .inl ((hF k).2 (.inl hk))
    · exact (l k hk).imp (fun x => (hF k).2 (.inr x)) id
theorem Went.trans {F' : Nat → Prop} {rowa evera nowa rowb everb nowb : List Int} {w1 : World} (h : Touch F w w1 ∧ ∀ k, F' k → F k ∨ w.heap.size ≤ k) (T : Went w1 F' d n e d2 most rowa evera nowa rowb everb nowb w') : Went w F d n e d2 most rowa evera nowa rowb everb nowb w' := by
  obtain ⟨G, P, t, f⟩ := T
  have hz := h.1.size
  refine ⟨G, P, h.1.past t (fun k hk hf => (h.2 k hf).elim id (fun x => by omega)), fun k hk => ?_⟩
  rcases f k hk with h1 | h1
  · exact h.2 k h1
  · exact .inr (by omega)
end

/-- What holds of the lists. -/
structure Fair (m : Nat) (most : Int) (row ever now : List Int) : Prop where
  fe : ever.length ≤ m
  fn : (now.length : Int) ≤ most
  fr : row.length ≤ 1024
  un : ∀ x ∈ now, U64 x
  ur : ∀ x ∈ row, U64 x
section
variable {m : Nat} {most t x : Int} {row ever now : List Int}
theorem Fair.more (h : Fair m most row ever now) : Fair (m + 1) most row ever now := ⟨by have := h.fe; omega, h.fn, h.fr, h.un, h.ur⟩
theorem Fair.draw (h : Fair m most row ever now) (hx : U64 x) (hr : (row.length : Int) < 1024) : Fair (m + 1) most (row ++ [x]) ever now :=
  ⟨by have := h.fe; omega, h.fn, by simp; omega, h.un, fun y hy => by rcases List.mem_append.1 hy with hy | hy; exact h.ur y hy; simp at hy; subst hy; exact hx⟩
theorem Fair.retry (h : Fair m most (t :: row) ever now) : Fair (m + 1) most row ever now := ⟨by have := h.fe; omega, h.fn, by have := h.fr; simp at this; omega, h.un, fun y hy => h.ur y (by simp [hy])⟩
theorem Fair.opened (h : Fair m most (t :: row) ever now) (hm : (now.length : Int) < most) : Fair (m + 1) most row (ever ++ [t]) (now ++ [t]) :=
  ⟨by have := h.fe; simp; omega, by simp; omega, by have := h.fr; simp at this; omega, fun y hy => by rcases List.mem_append.1 hy with hy | hy; exact h.un y hy; simp at hy; subst hy; exact h.ur _ (by simp), fun y hy => h.ur y (by simp [hy])⟩
theorem Fair.shut (h : Fair m most row ever now) (x : Int) : Fair (m + 1) most row ever (now.erase x) :=
  ⟨by have := h.fe; omega, by have := h.fn; have h2 := List.length_erase_le (a := x) (l := now); omega, h.fr, fun y hy => h.un y (List.mem_of_mem_erase hy), h.ur⟩
end
/-- What holds while a law plays. -/
def Playing (b : Nat) (w0 w : World) (d n e d2 : Nat) (most : Int) (m : Nat) : Prop :=
  ∃ row ever now F, Pair w d n e d2 most row ever now row ever now F ∧ Fair m most row ever now ∧ Below b w0 w ∧ b ≤ w.heap.size ∧ (∀ k, F k → b ≤ k)
theorem Playing.step {b : Nat} {w0 w w' : World} {d n e d2 : Nat} {most : Int} {m : Nat} {row ever now : List Int} {F : Nat → Prop} (hb : b ≤ w.heap.size) (hB : Below b w0 w) (hF : ∀ k, F k → b ≤ k) (T : Went w F d n e d2 most row ever now row ever now w') (hf : Fair m most row ever now) : Playing b w0 w' d n e d2 most m := by
  obtain ⟨G, P, t, f⟩ := T
  exact ⟨_, _, _, G, P, hf, hB.trans (t.to_below hb hF), Nat.le_trans hb t.size, fun k hk => (f k hk).elim (hF k) (fun x => by omega)⟩

theorem Playing.ext {b : Nat} {w0 w w' : World} {d n e d2 : Nat} {most : Int} {m : Nat} (h : Playing b w0 w d n e d2 most m) (x : Ext w w') : Playing b w0 w' d n e d2 most m := by
  obtain ⟨row, ever, now, F, P, f, B, hb, hF⟩ := h
  exact ⟨row, ever, now, F, P.ext x, f, B.trans (Below.mono x hb), Nat.le_trans hb x.size, hF⟩

theorem Pair.start {w w1 : World} {d n e : Nat} {most : Int} (h : Inv w.heap.size w w1 d n e most [] [] [] (.slice none 0 0) (.slice none 0 0) [] []) (h1 : 1 ≤ most) :
    Playing w.heap.size w (w1.alloc (.cells #[.int .i64 most, .slice none 0 0, .slice none 0 0, .slice none 0 0] 85)) d n e w1.heap.size most 0 := by
  obtain ⟨v, D, f1, _, _⟩ := h.ex
  have x : Ext w1 (w1.alloc (.cells #[.int .i64 most, .slice none 0 0, .slice none 0 0, .slice none 0 0] 85)) := (Ext.refl w1).alloc _
  have hz : w.heap.size ≤ w1.heap.size := h.hb
  refine ⟨[], [], [], _, ⟨v, .slice none 0 0, .slice none 0 0, .slice none 0 0, D.ext x, ⟨Blk.new w1 _ _, RowO.nil _, RowO.nil _, RowO.nil _, (fun h => by cases h), (fun h => by cases h), (fun h => by cases h), (fun k h => by cases h), (fun k h => by cases h), (fun k h => by cases h)⟩, fun k => Iff.rfl, fun k hk hr => ?_⟩,
    ⟨Nat.le_refl _, by simp; omega, by simp, by simp, by simp⟩, h.bel.trans (Below.mono x hz), by simp; omega, fun k hk => ?_⟩
  · have hl := D.foot_lt hk
    rcases hr with rfl | hr | hr | hr
    · omega
    · cases hr
    · cases hr
    · cases hr
  · rcases hk with hk | hr
    · exact f1 k hk
    · rcases hr with rfl | hr | hr | hr
      · exact hz
      · cases hr
      · cases hr
      · cases hr
end Go.Proofs.Ytifbmapianddcaa
