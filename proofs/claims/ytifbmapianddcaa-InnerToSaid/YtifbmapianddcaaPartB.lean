/- Walks of part: has and what it calls. -/
import Derived.Test.YtifbmapianddcaaPartA
namespace Go.Proofs.Ytifbmapianddcaa
open Go.RowKit

def bad (W H s id : Int) : Bool := decide (id < 0) || decide (cnt W H s ≤ id)

theorem has1_any (W H s id : Int) (p : Nat) (w : World) (hr : rightB W H s = true) (_hp : p < w.heap.size)
    (c0 : w.cell? ⟨p, 0, none⟩ = some (.int .i64 W)) (c1 : w.cell? ⟨p, 1, none⟩ = some (.int .i64 H)) (c2 : w.cell? ⟨p, 2, none⟩ = some (.int .i64 s)) :
    Calls Try.prog 167 #[.int .i64 id, .pointer (some ⟨p, 0, none⟩)] w fun e w' => e = .returned (.bool (bad W H s id)) ∧ Ext w w' := by
  unfold bad
  by_cases h : id < 0
  · go_enter Try.func167, Try.ntmps167
    go_wp2_with (first | (go_at_call 99; refine (count_yes _ _ _ _ hr).mono ?_; rintro e w1 ⟨rfl, hb1⟩; obtain ⟨hc1, hf1⟩ := hb1.cells; have hz1 := hb1.size; (repeat (first | rw [World.size_alloc] at hz1 | rw [World.size_drew] at hz1))))
    go_ret
    exact ⟨by simp [h], (by (with_reducible (repeat' (first | exact Ext.refl _ | assumption | refine Ext.drew ?_ | refine Ext.drewN ?_ _ | refine Ext.alloc ?_ _ | refine Ext.setCell ?_ ?_ _ | refine Ext.trans ?_ (by assumption)))); all_goals (first | (simp; done) | (simp; omega)))⟩
  · by_cases h' : cnt W H s ≤ id
    · go_enter Try.func167, Try.ntmps167
      go_wp2_with (first | (go_at_call 99; refine (count_yes _ _ _ _ hr).mono ?_; rintro e w1 ⟨rfl, hb1⟩; obtain ⟨hc1, hf1⟩ := hb1.cells; have hz1 := hb1.size; (repeat (first | rw [World.size_alloc] at hz1 | rw [World.size_drew] at hz1))))
      go_ret
      exact ⟨by simp [h'], (by (with_reducible (repeat' (first | exact Ext.refl _ | assumption | refine Ext.drew ?_ | refine Ext.drewN ?_ _ | refine Ext.alloc ?_ _ | refine Ext.setCell ?_ ?_ _ | refine Ext.trans ?_ (by assumption)))); all_goals (first | (simp; done) | (simp; omega)))⟩
    · go_enter Try.func167, Try.ntmps167
      go_wp2_with (first | (go_at_call 99; refine (count_yes _ _ _ _ hr).mono ?_; rintro e w1 ⟨rfl, hb1⟩; obtain ⟨hc1, hf1⟩ := hb1.cells; have hz1 := hb1.size; (repeat (first | rw [World.size_alloc] at hz1 | rw [World.size_drew] at hz1))))
      go_ret
      exact ⟨by simp; omega, (by (with_reducible (repeat' (first | exact Ext.refl _ | assumption | refine Ext.drew ?_ | refine Ext.drewN ?_ _ | refine Ext.alloc ?_ _ | refine Ext.setCell ?_ ?_ _ | refine Ext.trans ?_ (by assumption)))); all_goals (first | (simp; done) | (simp; omega)))⟩

def fidx (p : Int → Bool) (l : List Int) : Int := match l.findIdx? p with
  | some i => i
  | none => -1
theorem fidx_at {p : Int → Bool} {l : List Int} {k : Nat} (hk : k < l.length) (h : ∀ j (hj : j < k), p (l[j]'(by omega)) = false) (hp : p l[k] = true) : fidx p l = k := by
  have : l.findIdx? p = some k := by
    rw [List.findIdx?_eq_some_iff_getElem]
    exact ⟨hk, hp, fun j hj => by simpa using h j hj⟩
  simp [fidx, this]
theorem fidx_none {p : Int → Bool} {l : List Int} (h : ∀ j (hj : j < l.length), p l[j] = false) : fidx p l = -1 := by
  have : l.findIdx? p = none := by
    rw [List.findIdx?_eq_none_iff]
    intro x hx
    obtain ⟨j, hj, rfl⟩ := List.getElem_of_mem hx
    exact h j hj
  simp [fidx, this]
theorem fidx_ge {p : Int → Bool} {l : List Int} : decide (0 ≤ fidx p l) = l.any p := by
  unfold fidx
  cases h : l.findIdx? p with
  | none =>
    rw [List.findIdx?_eq_none_iff] at h
    have : l.any p = false := by rw [List.any_eq_false]; intro x hx; simpa using h x hx
    simp [this]
  | some i =>
    rw [List.findIdx?_eq_some_iff_getElem] at h
    obtain ⟨hi, hp, _⟩ := h
    have : l.any p = true := by rw [List.any_eq_true]; exact ⟨_, List.getElem_mem hi, hp⟩
    simp [this]

def IntsAt (w : World) (b off : Nat) (l : List Int) : Prop := ∀ k (h : k < l.length), w.cell? ⟨b, off + k, none⟩ = some (.int .i64 l[k])

theorem IntsAt.ext {w w' : World} {b off : Nat} {l : List Int} (h : IntsAt w b off l) (hb : b < w.heap.size) (he : Ext w w') : IntsAt w' b off l :=
  fun k hk => (he.cell (p := ⟨b, off + k, none⟩) hb).trans (h k hk)

set_option maxHeartbeats 400000 in
theorem indexFunc_has (W H s : Int) (p b off cap : Nat) (l : List Int) (w : World) (hr : rightB W H s = true) (hp : p < w.heap.size) (hb : b < w.heap.size)
    (c0 : w.cell? ⟨p, 0, none⟩ = some (.int .i64 W)) (c1 : w.cell? ⟨p, 1, none⟩ = some (.int .i64 H)) (c2 : w.cell? ⟨p, 2, none⟩ = some (.int .i64 s))
    (hl : l.length ≤ 1000000) (hcells : IntsAt w b off l) :
    Calls Try.prog 201 #[.slice (some ⟨b, off, none⟩) l.length cap, .func (.func 167) #[] #[.pointer (some ⟨p, 0, none⟩)]] w fun e w' => e = .returned (.int .i64 (fidx (bad W H s) l)) ∧ Ext w w' := by
  have HC := hide hcells
  clear hcells
  go_enter Try.func201, Try.ntmps201
  go_wp2
  go_loopw [8] (fun i wr => ∃ k : Nat, k ≤ l.length ∧ i = .int .i64 k ∧ (∀ j (hj : j < k) (hj' : j < l.length), bad W H s l[j] = false) ∧ Ext w wr) (fun i _ => l.length - (intOf i).toNat)
  case atStart => exact ⟨0, Nat.zero_le _, rfl, fun j hj => by omega, (by (with_reducible (repeat' (first | exact Ext.refl _ | assumption | refine Ext.drew ?_ | refine Ext.drewN ?_ _ | refine Ext.alloc ?_ _ | refine Ext.setCell ?_ ?_ _ | refine Ext.trans ?_ (by assumption)))); all_goals (first | (simp; done) | (simp; omega)))⟩
  case round =>
    obtain ⟨k, hk, rfl, hall, hext⟩ := hrel
    have HA := hide hall
    clear hall
    have hz := hext.size
    have d0 := (hext.cell (p := ⟨p, 0, none⟩) hp).trans c0
    have d1 := (hext.cell (p := ⟨p, 1, none⟩) hp).trans c1
    have d2 := (hext.cell (p := ⟨p, 2, none⟩) hp).trans c2
    by_cases hlt : k < l.length
    · have dk := (HC.out.ext hb hext) k hlt
      cases hbad : bad W H s l[k]
      · go_wp2_with (first | (go_at_call 167; refine (has1_any W H s _ p _ hr (by omega) d0 d1 d2).mono ?_; rintro e w1 ⟨rfl, hb1⟩; obtain ⟨hc1, hf1⟩ := hb1.cells; have hz1 := hb1.size; (repeat (first | rw [World.size_alloc] at hz1 | rw [World.size_drew] at hz1))))
        go_roundw
        case rel => exact ⟨k + 1, by omega, by go_num, fun j hj hj' => by
                    by_cases e : j = k
                    · subst e; exact hbad
                    · exact HA.out j (by omega) hj', (by (with_reducible (repeat' (first | exact Ext.refl _ | assumption | refine Ext.drew ?_ | refine Ext.drewN ?_ _ | refine Ext.alloc ?_ _ | refine Ext.setCell ?_ ?_ _ | refine Ext.trans ?_ (by assumption)))); all_goals (first | (simp; done) | (simp; omega)))⟩
        case measure => simp [intOf]; omega
      · go_wp2_with (first | (go_at_call 167; refine (has1_any W H s _ p _ hr (by omega) d0 d1 d2).mono ?_; rintro e w1 ⟨rfl, hb1⟩; obtain ⟨hc1, hf1⟩ := hb1.cells; have hz1 := hb1.size; (repeat (first | rw [World.size_alloc] at hz1 | rw [World.size_drew] at hz1))))
        go_ret
        exact ⟨by rw [fidx_at hlt (fun j hj => HA.out j hj (by omega)) hbad]; rfl, (by (with_reducible (repeat' (first | exact Ext.refl _ | assumption | refine Ext.drew ?_ | refine Ext.drewN ?_ _ | refine Ext.alloc ?_ _ | refine Ext.setCell ?_ ?_ _ | refine Ext.trans ?_ (by assumption)))); all_goals (first | (simp; done) | (simp; omega)))⟩
    · go_wp2
      go_ret
      exact ⟨by rw [fidx_none (fun j hj => HA.out j (by omega) hj)]; rfl, (by (with_reducible (repeat' (first | exact Ext.refl _ | assumption | refine Ext.drew ?_ | refine Ext.drewN ?_ _ | refine Ext.alloc ?_ _ | refine Ext.setCell ?_ ?_ _ | refine Ext.trans ?_ (by assumption)))); all_goals (first | (simp; done) | (simp; omega)))⟩

theorem containsFunc_has (W H s : Int) (p b off cap : Nat) (l : List Int) (w : World) (hr : rightB W H s = true) (hp : p < w.heap.size) (hb : b < w.heap.size)
    (c0 : w.cell? ⟨p, 0, none⟩ = some (.int .i64 W)) (c1 : w.cell? ⟨p, 1, none⟩ = some (.int .i64 H)) (c2 : w.cell? ⟨p, 2, none⟩ = some (.int .i64 s))
    (hl : l.length ≤ 1000000) (hcells : IntsAt w b off l) :
    Calls Try.prog 166 #[.slice (some ⟨b, off, none⟩) l.length cap, .func (.func 167) #[] #[.pointer (some ⟨p, 0, none⟩)]] w fun e w' => e = .returned (.bool (l.any (bad W H s))) ∧ Ext w w' := by
  have HC := hide hcells
  clear hcells
  go_enter Try.func166, Try.ntmps166
  go_wp2_with (first | (go_at_call 201; refine (indexFunc_has W H s p b off cap l _ hr hp hb c0 c1 c2 hl HC.out).mono ?_; rintro e w1 ⟨rfl, hb1⟩; obtain ⟨hc1, hf1⟩ := hb1.cells; have hz1 := hb1.size; (repeat (first | rw [World.size_alloc] at hz1 | rw [World.size_drew] at hz1))))
  go_ret
  exact ⟨by rw [← fidx_ge]; rfl, (by (with_reducible (repeat' (first | exact Ext.refl _ | assumption | refine Ext.drew ?_ | refine Ext.drewN ?_ _ | refine Ext.alloc ?_ _ | refine Ext.setCell ?_ ?_ _ | refine Ext.trans ?_ (by assumption)))); all_goals (first | (simp; done) | (simp; omega)))⟩

def hasE (W H s : Int) (l : List Int) : Int := if rightB W H s then (if l.any (bad W H s) then 10 else 0) else 1

theorem has_any (W H s : Int) (b off cap : Nat) (l : List Int) (w : World) (hb : b < w.heap.size) (hl : l.length ≤ 1000000) (hcells : IntsAt w b off l) :
    Calls Try.prog 141 #[.agg #[.int .i64 W, .int .i64 H, .int .i64 s], .slice (some ⟨b, off, none⟩) l.length cap] w fun e w' => e = .returned (.int .i64 (hasE W H s l)) ∧ Ext w w' := by
  have HC := hide hcells
  clear hcells
  cases hr : rightB W H s
  · go_enter Try.func141, Try.ntmps141
    go_wp2_with (first | (go_at_call 139; refine (right_any _ _ _ _).mono ?_; rintro e w1 ⟨rfl, hb1⟩; obtain ⟨hc1, hf1⟩ := hb1.cells; have hz1 := hb1.size; (repeat (first | rw [World.size_alloc] at hz1 | rw [World.size_drew] at hz1)); have z1_0 : w.heap.size < w1.heap.size := (by omega)))
    go_ret
    exact ⟨by simp [hasE, hr], (by (with_reducible (repeat' (first | exact Ext.refl _ | assumption | refine Ext.drew ?_ | refine Ext.drewN ?_ _ | refine Ext.alloc ?_ _ | refine Ext.setCell ?_ ?_ _ | refine Ext.trans ?_ (by assumption)))); all_goals (first | (simp; done) | (simp; omega)))⟩
  · cases ha : l.any (bad W H s)
    all_goals
      go_enter Try.func141, Try.ntmps141
      go_wp2_with (first
        | (go_at_call 139; refine (right_any _ _ _ _).mono ?_; rintro e w1 ⟨rfl, hb1⟩; obtain ⟨hc1, hf1⟩ := hb1.cells; have hz1 := hb1.size; (repeat (first | rw [World.size_alloc] at hz1 | rw [World.size_drew] at hz1)); have z1_0 : w.heap.size < w1.heap.size := (by omega))
        | (go_at_call 166; refine (containsFunc_has W H s _ b off cap l _ hr (by omega) (by omega) (by simp [*]) (by simp [*]) (by simp [*]) hl (HC.out.ext hb (Ext.trans (Ext.alloc (Ext.refl _) _) (by assumption)))).mono ?_; rintro e w2 ⟨rfl, hb2⟩; obtain ⟨hc2, hf2⟩ := hb2.cells; have hz2 := hb2.size; (repeat (first | rw [World.size_alloc] at hz2 | rw [World.size_drew] at hz2))))
      go_ret
      exact ⟨by simp [hasE, hr, ha], (by (with_reducible (repeat' (first | exact Ext.refl _ | assumption | refine Ext.drew ?_ | refine Ext.drewN ?_ _ | refine Ext.alloc ?_ _ | refine Ext.setCell ?_ ?_ _ | refine Ext.trans ?_ (by assumption)))); all_goals (first | (simp; done) | (simp; omega)))⟩

theorem has_ok (W H s : Int) (b off cap : Nat) (l : List Int) (w : World) (hr : rightB W H s = true) (ha : l.any (bad W H s) = false) (hb : b < w.heap.size) (hl : l.length ≤ 1000000) (hcells : IntsAt w b off l) :
    Calls Try.prog 141 #[.agg #[.int .i64 W, .int .i64 H, .int .i64 s], .slice (some ⟨b, off, none⟩) l.length cap] w fun e w' => e = .returned (.int .i64 0) ∧ Ext w w' :=
  (has_any W H s b off cap l w hb hl hcells).mono fun e w' ⟨he, hx⟩ => ⟨by rw [he]; simp [hasE, hr, ha], hx⟩

theorem bad_false {W H s id : Int} (h0 : 0 ≤ id) (hid : id < cnt W H s) : bad W H s id = false := by simp [bad]; omega
theorem bad_false_iff {W H s id : Int} : bad W H s id = false ↔ 0 ≤ id ∧ id < cnt W H s := by simp [bad]

theorem one_at (w : World) (x : Int) (t : TypeId) (b : Nat) (hb : b = w.heap.size) : IntsAt (w.alloc (.cells #[.int .i64 x] t)) b 0 [x] := by
  subst hb
  intro k hk
  simp at hk; subst hk
  simp [go_sem]
theorem two_at (w : World) (x y : Int) (t : TypeId) (b : Nat) (hb : b = w.heap.size) : IntsAt (w.alloc (.cells #[.int .i64 x, .int .i64 y] t)) b 0 [x, y] := by
  subst hb
  intro k hk
  simp at hk
  match k, hk with
  | 0, _ => simp [go_sem]
  | 1, _ => simp [go_sem]
end Go.Proofs.Ytifbmapianddcaa
