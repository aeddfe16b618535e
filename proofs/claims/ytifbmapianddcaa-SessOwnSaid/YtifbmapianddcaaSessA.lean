/- Walks of sess' small functions: New, Has, Count, Left, Draw, Close: what they return, and what becomes of the desk. -/
import Derived.Test.YtifbmapianddcaaMapK
set_option linter.all false
set_option linter.unusedVariables false
set_option linter.unusedSimpArgs false
namespace Go.Proofs.Ytifbmapianddcaa
open Go.RowKit

def u64E : Enc Int := ⟨1, fun x => [.int .u64 x], fun _ => rfl, fun _ u hu => by simp at hu; subst hu; rfl⟩
theorem T_u64s : ElemT Try.prog 33 38 (.int .u64 0) 1 8 := ⟨Try.underlying33, by kernel_rfl, rfl, by decide⟩

/-- Which one of all that were opened a token is. -/
def idxO (l : List Int) (x : Int) : Option Int := (l.findIdx? (· == x)).map fun i : Nat => (i : Int)
def nowO (ever now : List Int) (x : Int) : Option Int := if x ∈ now then idxO ever x else none

theorem idxO_some {l : List Int} {x : Int} : (idxO l x).isSome = decide (x ∈ l) := by
  unfold idxO
  rw [Option.isSome_map, List.findIdx?_isSome, Bool.eq_iff_iff]
  simp [List.any_eq_true]
theorem idxO_none {l : List Int} {x : Int} (h : x ∉ l) : idxO l x = none := by
  have := idxO_some (l := l) (x := x)
  cases hh : idxO l x
  · rfl
  · rw [hh] at this; simp [h] at this
theorem idxO_snoc {l : List Int} {t : Int} (h : t ∉ l) (x : Int) : idxO (l ++ [t]) x = if x = t then some (l.length : Int) else idxO l x := by
  unfold idxO
  rw [List.findIdx?_append]
  by_cases hx : x = t
  · subst hx
    have : l.findIdx? (· == x) = none := by
      rw [List.findIdx?_eq_none_iff]; intro y hy; simp; rintro rfl; exact h hy
    simp [this]
  · have h2 : List.findIdx? (· == x) [t] = none := by
      rw [List.findIdx?_eq_none_iff]; intro y hy; simp at hy; subst hy; simp; exact fun e => hx e.symm
    rw [h2, if_neg hx]; simp
theorem nowO_some {ever now : List Int} {x : Int} (h : ∀ y ∈ now, y ∈ ever) : (nowO ever now x).isSome = decide (x ∈ now) := by
  unfold nowO
  by_cases hx : x ∈ now
  · rw [if_pos hx, idxO_some]; simp [hx, h x hx]
  · rw [if_neg hx]; simp [hx]

/-- What a desk is: the tokens to be drawn, those that were opened, in order, and the open ones, in order. -/
structure Sound (ever now : List Int) : Prop where
  nodup : ever.Nodup
  sub : now.Sublist ever
theorem Sound.mem {ever now : List Int} (h : Sound ever now) : ∀ y ∈ now, y ∈ ever := fun _ hy => h.sub.subset hy
theorem Sound.nodup' {ever now : List Int} (h : Sound ever now) : now.Nodup := h.sub.nodup h.nodup

structure DeskAt (w : World) (d : Nat) (v : Value) (n e : Nat) (most : Int) (row ever now : List Int) : Prop where
  blk : Blk w d 149 #[.int .i64 most, v, .map (some n), .map (some e)]
  own : Own u64E w 0 38 v row
  wf : ∀ x ∈ row, U64 x
  mnow : MapIs w n (nowO ever now) now.length
  mever : MapIs w e (idxO ever) ever.length
  ne : n ≠ e
  sound : Sound ever now

/-- The blocks of a desk. -/
def Foot (d : Nat) (v : Value) (n e : Nat) (k : Nat) : Prop := k = d ∨ v.ownBlock = some k ∨ k = n ∨ k = e

theorem DeskAt.touch {S : Nat → Prop} {w w' : World} {d : Nat} {v : Value} {n e : Nat} {most : Int} {row ever now : List Int} (h : DeskAt w d v n e most row ever now) (t : Touch S w w') (hs : ∀ k, Foot d v n e k → ¬ S k) : DeskAt w' d v n e most row ever now :=
  ⟨h.blk.touch t (hs d (.inl rfl)), h.own.touch t (fun k hk => hs k (.inr (.inl hk))), h.wf, h.mnow.touch t (hs n (.inr (.inr (.inl rfl)))), h.mever.touch t (hs e (.inr (.inr (.inr rfl)))), h.ne, h.sound⟩
theorem DeskAt.ext {w w' : World} {d : Nat} {v : Value} {n e : Nat} {most : Int} {row ever now : List Int} (h : DeskAt w d v n e most row ever now) (t : Ext w w') : DeskAt w' d v n e most row ever now :=
  h.touch (Touch.of_ext (S := fun _ => False) t) (fun _ _ x => x)
theorem DeskAt.foot_lt {w : World} {d : Nat} {v : Value} {n e : Nat} {most : Int} {row ever now : List Int} (h : DeskAt w d v n e most row ever now) {k : Nat} (hk : Foot d v n e k) : k < w.heap.size := by
  rcases hk with rfl | hk | rfl | rfl
  · exact h.blk.lt
  · exact (own_lt h.own hk).2
  · exact h.mnow.lt
  · exact h.mever.lt
theorem DeskAt.vd {w : World} {d : Nat} {v : Value} {n e : Nat} {most : Int} {row ever now : List Int} (h : DeskAt w d v n e most row ever now) : v.ownBlock ≠ some d := h.blk.ne_own h.own (by decide)
theorem DeskAt.vn {w : World} {d : Nat} {v : Value} {n e : Nat} {most : Int} {row ever now : List Int} (h : DeskAt w d v n e most row ever now) : v.ownBlock ≠ some n := by
  obtain ⟨D, h1, _⟩ := h.mnow; exact own_ne_map h.own h1
theorem DeskAt.ve {w : World} {d : Nat} {v : Value} {n e : Nat} {most : Int} {row ever now : List Int} (h : DeskAt w d v n e most row ever now) : v.ownBlock ≠ some e := by
  obtain ⟨D, h1, _⟩ := h.mever; exact own_ne_map h.own h1
theorem DeskAt.dn {w : World} {d : Nat} {v : Value} {n e : Nat} {most : Int} {row ever now : List Int} (h : DeskAt w d v n e most row ever now) : d ≠ n := by
  obtain ⟨D, h1, _⟩ := h.mnow; exact h.blk.ne_map h1
theorem DeskAt.de {w : World} {d : Nat} {v : Value} {n e : Nat} {most : Int} {row ever now : List Int} (h : DeskAt w d v n e most row ever now) : d ≠ e := by
  obtain ⟨D, h1, _⟩ := h.mever; exact h.blk.ne_map h1

theorem sNew_no (most : Int) (w : World) (h : most < 1 ∨ 4 < most) : Calls Try.prog 38 #[.int .i64 most] w fun e w' => e = .returned (.tuple #[.pointer none, .int .i64 10]) ∧ w = w' := by
  rcases h with h | h
  all_goals
    go_enter Try.func38, Try.ntmps38
    go_wp2
    go_ret2
    exact ⟨rfl, rfl⟩

def MadeDesk (w : World) (most : Int) (e : Ending) (w' : World) : Prop := ∃ d n m, e = .returned (.tuple #[.pointer (some ⟨d, 0, none⟩), .int .i64 0]) ∧ Ext w w' ∧ w.heap.size ≤ d ∧ w.heap.size ≤ n ∧ w.heap.size ≤ m ∧ DeskAt w' d (.slice none 0 0) n m most [] [] []

theorem sNew_yes (most : Int) (w : World) (h1 : 1 ≤ most) (h2 : most ≤ 4) : Calls Try.prog 38 #[.int .i64 most] w (MadeDesk w most) := by
  have hmm := @run_makeMap Try.prog
  go_enter Try.func38, Try.ntmps38
  go_wp2
  go_ret2
  refine ⟨_, w.heap.size, w.heap.size + 1, rfl, (by (with_reducible (repeat' (first | exact Ext.refl _ | assumption | refine Ext.drew ?_ | refine Ext.drewN ?_ _ | refine Ext.alloc ?_ _ | refine Ext.setCell ?_ ?_ _ | refine Ext.trans ?_ (by assumption)))); all_goals (first | (simp; done) | (simp; omega))), by omega, by omega, by omega, ?_⟩
  have m1 := MapIs.made w
  have m2 := MapIs.made (w.alloc (.map #[] 0))
  simp only [World.size_alloc] at m2
  refine ⟨?_, Own.nil _ _ _ _, (fun x hx => by cases hx), ?_, ?_, by omega, ⟨List.nodup_nil, List.Sublist.refl _⟩⟩
  · have := Blk.new ((w.alloc (.map #[] 0)).alloc (.map #[] 0)) 149 #[.int .i64 most, .slice none 0 0, .map (some w.heap.size), .map (some (w.heap.size + 1))]
    simpa using this
  · exact ((m1.ext ((Ext.refl _).alloc _)).ext ((Ext.refl _).alloc _)).congr (fun x => rfl)
  · exact (m2.ext ((Ext.refl _).alloc _)).congr (fun x => rfl)

section
variable {w : World} {d : Nat} {v : Value} {n e : Nat} {most : Int} {row ever now : List Int}

theorem sCount_any (h : DeskAt w d v n e most row ever now) : Calls Try.prog 48 #[.pointer (some ⟨d, 0, none⟩)] w fun x w' => x = .returned (.int .i64 (now.length : Int)) ∧ w = w' := by
  have c2 : w.cell? ⟨d, 2, none⟩ = some (.map (some n)) := h.blk.cell 2
  have M := hide h.mnow
  clear h
  go_enter Try.func48, Try.ntmps48
  go_wp2_with (at_len; refine wpList_lenm _ rfl _ rfl n _ _ rfl M.out ?_)
  go_ret
  exact ⟨rfl, rfl⟩

theorem sLeft_any (h : DeskAt w d v n e most row ever now) : Calls Try.prog 49 #[.pointer (some ⟨d, 0, none⟩)] w fun x w' => x = .returned (.int .i64 (row.length : Int)) ∧ w = w' := by
  obtain ⟨a, c, rfl⟩ := h.own.slice
  have c2 : w.cell? ⟨d, 1, none⟩ = some (.slice a row.length c) := h.blk.cell 1
  clear h
  go_enter Try.func49, Try.ntmps49
  go_wp2
  go_ret
  exact ⟨rfl, rfl⟩

theorem sHas_any (h : DeskAt w d v n e most row ever now) (x : Int) (hx : U64 x) : Calls Try.prog 46 #[.pointer (some ⟨d, 0, none⟩), .int .u64 x] w fun r w' => r = .returned (.bool (decide (x ∈ now))) ∧ w = w' := by
  have c2 : w.cell? ⟨d, 2, none⟩ = some (.map (some n)) := h.blk.cell 2
  have M := hide h.mnow
  have HS := hide (nowO_some (x := x) h.sound.mem)
  have HX := hide hx
  clear h hx
  go_enter Try.func46, Try.ntmps46
  go_wp2_with (at_lookup; refine wpList_look _ rfl _ _ rfl n _ _ rfl M.out x rfl HX.out ?_; intro c hc; rw [HS.out]; clear hc)
  go_ret
  exact ⟨rfl, rfl⟩
end
end Go.Proofs.Ytifbmapianddcaa
