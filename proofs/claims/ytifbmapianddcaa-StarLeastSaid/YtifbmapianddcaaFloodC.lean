/- Walk of the flood. -/
import Derived.Test.YtifbmapianddcaaFloodN
import Derived.Test.YtifbmapianddcaaRepeat
import Derived.Test.YtifbmapianddcaaHeapC
set_option linter.all false
set_option linter.unusedVariables false
set_option linter.unusedSimpArgs false
namespace Go.Proofs.Ytifbmapianddcaa
open Go.RowKit

def farL (far : Nat → Int) (n : Nat) : List Int := (List.range n).map far
theorem farL_len (far : Nat → Int) (n : Nat) : (farL far n).length = n := by simp [farL]
theorem farL_get (far : Nat → Int) {n i : Nat} (h : i < n) : (farL far n)[i]? = some (far i) := by simp [farL, h]
theorem farL_set (far : Nat → Int) (n i : Nat) (x : Int) : (farL far n).set i x = farL (updF far i x) n := by
  apply List.ext_getElem?
  intro k
  rw [List.getElem?_set, farL_len]
  by_cases hk : k < n
  · rw [farL_get far hk, farL_get _ hk]
    by_cases e : i = k
    · subst e; simp [hk, updF]
    · rw [if_neg e, updF_ne far x (fun h => e h.symm)]
  · have a1 : (farL far n)[k]? = none := List.getElem?_eq_none (by rw [farL_len]; omega)
    have a2 : (farL (updF far i x) n)[k]? = none := List.getElem?_eq_none (by rw [farL_len]; omega)
    rw [a1, a2]
    split
    · split
      · omega
      · rfl
    · rfl
theorem farL_inf (n : Nat) : List.replicate n infI = farL (fun _ => infI) n := by
  unfold farL
  rw [List.map_const', List.length_range]

theorem cell_cells {w : World} {base g n c : Nat} {l : List Cell} (h : Own cellE w base 28 (.slice (some ⟨g, 0, none⟩) n c) l) {k : Nat} {p : Cell} (hk : l[k]? = some p) :
    w.cell? ⟨g, k * 2, none⟩ = some (.int .i64 p.1) ∧ w.cell? ⟨g, k * 2 + 1, none⟩ = some (.int .i64 p.2) ∧ g < w.heap.size := by
  obtain ⟨a, c', e⟩ := h.slice
  have en : n = l.length := by injection e
  subst en
  have hkl := (List.getElem?_eq_some_iff.1 hk).1
  have h' : w.ownsRow base 28 2 (.slice (some ⟨g, 0, none⟩) l.length c) l.length (l.flatMap cellE.cells) := h
  refine ⟨?_, ?_, (own_lt h rfl).2⟩
  · have := flat_at cellE l k p hk 0 _ rfl
    rw [h'.cellAt (k * 2) (by omega)]
    exact this
  · have := flat_at cellE l k p hk 1 _ rfl
    rw [h'.cellAt (k * 2 + 1) (by omega)]
    exact this

/-- The row of how far all are, in memory. -/
def FarAt (w : World) (base g c : Nat) (far : Nat → Int) (n : Nat) : Prop := Own u64E w base 38 (.slice (some ⟨g, 0, none⟩) n c) (farL far n)
theorem FarAt.lt {w : World} {base g c : Nat} {far : Nat → Int} {n : Nat} (h : FarAt w base g c far n) : base ≤ g ∧ g < w.heap.size := own_lt h rfl
theorem FarAt.touch {S : Nat → Prop} {w w' : World} {base g c : Nat} {far : Nat → Int} {n : Nat} (h : FarAt w base g c far n) (t : Touch S w w') (hs : ¬ S g) : FarAt w' base g c far n :=
  Own.touch h t (fun k hk => by simp only [Value.ownBlock, Option.some.injEq] at hk; subst hk; exact hs)
theorem FarAt.ext {w w' : World} {base g c : Nat} {far : Nat → Int} {n : Nat} (h : FarAt w base g c far n) (t : Ext w w') : FarAt w' base g c far n := Own.ext h t
theorem FarAt.cell {w : World} {base g c : Nat} {far : Nat → Int} {n : Nat} (h : FarAt w base g c far n) {i : Nat} (hi : i < n) : w.cell? ⟨g, i, none⟩ = some (.int .u64 (far i)) ∧ w.frozen? ⟨g, i, none⟩ = false := by
  have h' : w.ownsRow base 38 1 (.slice (some ⟨g, 0, none⟩) n c) (farL far n).length ((farL far n).flatMap u64E.cells) := h
  rw [farL_len] at h'
  refine ⟨?_, h'.frozenAt _⟩
  rw [h'.cellAt i (by omega)]
  have := flat_at u64E (farL far n) i (far i) (farL_get far hi) 0 (.int .u64 (far i)) rfl
  simpa [u64E] using this
theorem FarAt.turn {w : World} {base g c : Nat} {far : Nat → Int} {n : Nat} (h : FarAt w base g c far n) {i : Nat} (hi : i < n) (x : Int) : FarAt (w.setCell ⟨g, i, none⟩ (.int .u64 x)) base g c (updF far i x) n := by
  have := Own.turn (E := u64E) h (i := i) (by rw [farL_len]; exact hi) x
  rw [farL_set] at this
  rw [show i * u64E.size = i from Nat.mul_one i] at this
  exact this

/-- The box of a land. -/
def LandB (b : Nat) (W H : Int) (a : Option Addr) (n c : Nat) (bx byy bw bh : Int) (w : World) : Prop :=
  w.cell? ⟨b, 0, none⟩ = some (.int .i64 W) ∧ w.cell? ⟨b, 1, none⟩ = some (.int .i64 H) ∧ w.cell? ⟨b, 2, none⟩ = some (.slice a n c) ∧ w.cell? ⟨b, 3, none⟩ = some (.int .i64 bx) ∧ w.cell? ⟨b, 4, none⟩ = some (.int .i64 byy) ∧ w.cell? ⟨b, 5, none⟩ = some (.int .i64 bw) ∧ w.cell? ⟨b, 6, none⟩ = some (.int .i64 bh)
theorem LandB.touch {S : Nat → Prop} {b : Nat} {W H : Int} {a : Option Addr} {n c : Nat} {bx byy bw bh : Int} {w w' : World} (h : LandB b W H a n c bx byy bw bh w) (t : Touch S w w') (hb : b < w.heap.size) (h1 : ¬ S b) : LandB b W H a n c bx byy bw bh w' := by
  obtain ⟨a0, a1, a2, a3, a4, a5, a6⟩ := h
  have e1 : ∀ o, w'.cell? ⟨b, o, none⟩ = w.cell? ⟨b, o, none⟩ := fun o => t.cell (p := ⟨b, o, none⟩) hb h1
  unfold LandB
  simp only [e1]
  exact ⟨a0, a1, a2, a3, a4, a5, a6⟩
theorem LandB.ext {b : Nat} {W H : Int} {a : Option Addr} {n c : Nat} {bx byy bw bh : Int} {w w' : World} (h : LandB b W H a n c bx byy bw bh w) (t : Ext w w') (hb : b < w.heap.size) : LandB b W H a n c bx byy bw bh w' :=
  h.touch (Touch.of_ext (S := fun _ => False) t) hb (fun x => x)

/-- The boxes of a land and of a cell. -/
def LandS (b : Nat) (W H : Int) (a : Option Addr) (n c : Nat) (bx byy bw bh x y : Int) (w : World) : Prop :=
  w.cell? ⟨b, 0, none⟩ = some (.int .i64 W) ∧ w.cell? ⟨b, 1, none⟩ = some (.int .i64 H) ∧ w.cell? ⟨b, 2, none⟩ = some (.slice a n c) ∧ w.cell? ⟨b, 3, none⟩ = some (.int .i64 bx) ∧ w.cell? ⟨b, 4, none⟩ = some (.int .i64 byy) ∧ w.cell? ⟨b, 5, none⟩ = some (.int .i64 bw) ∧ w.cell? ⟨b, 6, none⟩ = some (.int .i64 bh) ∧ w.cell? ⟨b + 1, 0, none⟩ = some (.int .i64 x) ∧ w.cell? ⟨b + 1, 1, none⟩ = some (.int .i64 y)
theorem LandS.touch {S : Nat → Prop} {b : Nat} {W H : Int} {a : Option Addr} {n c : Nat} {bx byy bw bh x y : Int} {w w' : World} (h : LandS b W H a n c bx byy bw bh x y w) (t : Touch S w w') (hb : b + 1 < w.heap.size) (h1 : ¬ S b) (h2 : ¬ S (b + 1)) : LandS b W H a n c bx byy bw bh x y w' := by
  obtain ⟨a0, a1, a2, a3, a4, a5, a6, a7, a8⟩ := h
  have e1 : ∀ o, w'.cell? ⟨b, o, none⟩ = w.cell? ⟨b, o, none⟩ := fun o => t.cell (p := ⟨b, o, none⟩) (by show b < _; omega) h1
  have e2 : ∀ o, w'.cell? ⟨b + 1, o, none⟩ = w.cell? ⟨b + 1, o, none⟩ := fun o => t.cell (p := ⟨b + 1, o, none⟩) hb h2
  unfold LandS
  simp only [e1, e2]
  exact ⟨a0, a1, a2, a3, a4, a5, a6, a7, a8⟩
theorem LandS.ext {b : Nat} {W H : Int} {a : Option Addr} {n c : Nat} {bx byy bw bh x y : Int} {w w' : World} (h : LandS b W H a n c bx byy bw bh x y w) (t : Ext w w') (hb : b + 1 < w.heap.size) : LandS b W H a n c bx byy bw bh x y w' :=
  h.touch (Touch.of_ext (S := fun _ => False) t) hb (fun x => x) (fun x => x)

set_option maxRecDepth 100000 in
set_option maxHeartbeats 1000000 in
theorem fFlood_shut {w : World} {W H : Int} {a : Option Addr} {l : List Int} {bx byy bw bh : Int} (L : LandAt w W H a l bx byy bw bh) (c : Nat) (x y : Int) (ho : openB l W bx byy bw bh x y = false) :
    Calls Try.prog 109 #[.agg #[.int .i64 W, .int .i64 H, .slice a l.length c, .int .i64 bx, .int .i64 byy, .int .i64 bw, .int .i64 bh], .agg #[.int .i64 x, .int .i64 y]] w fun e w' =>
      ∃ v, e = .returned v ∧ Ext w w' ∧ Own u64E w' w.heap.size 38 v (farL (fun _ => infI) l.length) := by
  have wh := L.plain.wh
  have hl := L.len
  have hn1 : 1 ≤ l.length := by
    have := Int.mul_pos (show 0 < W by omega) (show 0 < H by omega)
    omega
  obtain ⟨n, hn⟩ : ∃ n, l.length = n := ⟨_, rfl⟩
  have HO := hide (fun (w' : World) (hx : Ext w w') => fOpen_any (L.ext hx) c x y)
  rw [ho] at HO
  rw [hn] at HO hn1 wh ⊢
  have HR := hide (fun (w' : World) (b : Nat) (hb : b < w'.heap.size) (hx : w'.cell? ⟨b, 0, none⟩ = some (.int .u64 18446744073709551615)) => repeat_one b 18446744073709551615 n hn1 (by omega) hb hx)
  clear L hl ho hn
  go_enter Try.func109, Try.ntmps109
  go_wp2
  apply wp_scope_straight
  go_wp2_with fail
  refine (HR.out _ _ (by simp) (by simp [go_sem])).mono ?_
  rintro e w1 ⟨v, rfl, hx1, hv⟩
  have hx : Ext w w1 := (by (with_reducible (repeat' (first | exact Ext.refl _ | assumption | refine Ext.drew ?_ | refine Ext.drewN ?_ _ | refine Ext.alloc ?_ _ | refine Ext.setCell ?_ ?_ _ | refine Ext.trans ?_ (by assumption)))); all_goals (first | (simp; done) | (simp; omega)))
  have HV := hide (hv.lower (base' := w.heap.size) (by simp; omega))
  have q0 : w1.cell? ⟨w.heap.size, 0, none⟩ = some (.int .i64 W) := by rw [hx1.cell (p := ⟨w.heap.size, 0, none⟩) (by simp; omega)]; simp [go_sem]
  have q1 : w1.cell? ⟨w.heap.size, 1, none⟩ = some (.int .i64 H) := by rw [hx1.cell (p := ⟨w.heap.size, 1, none⟩) (by simp; omega)]; simp [go_sem]
  have q2 : w1.cell? ⟨w.heap.size, 2, none⟩ = some (.slice a n c) := by rw [hx1.cell (p := ⟨w.heap.size, 2, none⟩) (by simp; omega)]; simp [go_sem]
  have q3 : w1.cell? ⟨w.heap.size, 3, none⟩ = some (.int .i64 bx) := by rw [hx1.cell (p := ⟨w.heap.size, 3, none⟩) (by simp; omega)]; simp [go_sem]
  have q4 : w1.cell? ⟨w.heap.size, 4, none⟩ = some (.int .i64 byy) := by rw [hx1.cell (p := ⟨w.heap.size, 4, none⟩) (by simp; omega)]; simp [go_sem]
  have q5 : w1.cell? ⟨w.heap.size, 5, none⟩ = some (.int .i64 bw) := by rw [hx1.cell (p := ⟨w.heap.size, 5, none⟩) (by simp; omega)]; simp [go_sem]
  have q6 : w1.cell? ⟨w.heap.size, 6, none⟩ = some (.int .i64 bh) := by rw [hx1.cell (p := ⟨w.heap.size, 6, none⟩) (by simp; omega)]; simp [go_sem]
  have p0 : w1.cell? ⟨w.heap.size + 1, 0, none⟩ = some (.int .i64 x) := by rw [hx1.cell (p := ⟨w.heap.size + 1, 0, none⟩) (by simp)]; simp [go_sem]
  have p1 : w1.cell? ⟨w.heap.size + 1, 1, none⟩ = some (.int .i64 y) := by rw [hx1.cell (p := ⟨w.heap.size + 1, 1, none⟩) (by simp)]; simp [go_sem]
  have z0 : w.heap.size < w1.heap.size := by have := hx1.size; simp at this; omega
  have z1 : w.heap.size + 1 < w1.heap.size := by have := hx1.size; simp at this; omega
  have HX := hide hx
  clear hx1 hx hv HR
  go_wp2_with fail
  refine (HO.out _ (HX.out.trans (by (with_reducible (repeat' (first | exact Ext.refl _ | assumption | refine Ext.drew ?_ | refine Ext.drewN ?_ _ | refine Ext.alloc ?_ _ | refine Ext.setCell ?_ ?_ _ | refine Ext.trans ?_ (by assumption)))); all_goals (first | (simp; done) | (simp; omega))))).mono ?_
  rintro e w2 ⟨rfl, hx2⟩
  go_wp2_with fail
  rw [Exit.noGoto_ret]
  go_ret
  exact ⟨_, rfl, HX.out.trans (by (with_reducible (repeat' (first | exact Ext.refl _ | assumption | refine Ext.drew ?_ | refine Ext.drewN ?_ _ | refine Ext.alloc ?_ _ | refine Ext.setCell ?_ ?_ _ | refine Ext.trans ?_ (by assumption)))); all_goals (first | (simp; done) | (simp; omega))), by rw [← farL_inf]; exact HV.out.ext hx2⟩
end Go.Proofs.Ytifbmapianddcaa
