/- What a nil world tells; an update by any field; rows that are stored to. -/
import Derived.Test.YtkioohhjjdlhiaaGreatRedT
set_option linter.all false
set_option linter.unusedVariables false
set_option linter.unusedSimpArgs false
namespace Go.Proofs.YtkioohhjjdlhiaaGreat
open Go.RowKit

section
variable {w : World}
theorem nil_update (f : Value) (W H : Int) (a : Option Addr) (n c : Nat) (ca : Option Addr) (m cc : Nat) : Calls Tryz.prog 22 #[.pointer none, .agg #[.int .i64 W, .int .i64 H, .slice a n c], .slice ca m cc] w fun e w' => e = .returned (.tuple #[.slice none 0 0, .int .i64 2]) ∧ Ext w w' := by
 go_enter Tryz.func22, Tryz.ntmps22
 go_wp2_with fail
 exact bodyPost_ret (v := .tuple #[.slice none 0 0, .int .i64 2]) (by simp [results, Tryz.results22, go_sem, *]) rfl ⟨rfl, (by (with_reducible (repeat' (first | exact z_r _ | assumption | refine z_d ?_ | refine z_n ?_ _ | refine z_a ?_ _ | refine z_s ?_ ?_ _ | refine z_t ?_ (by assumption)))); all_goals (simp <;> omega))⟩
theorem nil_table (id : Int) : Calls Tryz.prog 33 #[.pointer none, .int .i64 id] w fun e w' => e = .returned (.tuple #[.agg #[.slice none 0 0, .slice none 0 0], .int .i64 2]) ∧ Ext w w' := by
 go_enter Tryz.func33, Tryz.ntmps33
 go_wp2_with fail
 exact bodyPost_ret (v := .tuple #[.agg #[.slice none 0 0, .slice none 0 0], .int .i64 2]) (by simp [results, Tryz.results33, go_sem, *]) rfl ⟨rfl, (by (with_reducible (repeat' (first | exact z_r _ | assumption | refine z_d ?_ | refine z_n ?_ _ | refine z_a ?_ _ | refine z_s ?_ ?_ _ | refine z_t ?_ (by assumption)))); all_goals (simp <;> omega))⟩
theorem nil_field : Calls Tryz.prog 25 #[.pointer none] w fun e w' => e = .returned (.agg #[.int .i64 0, .int .i64 0, .slice none 0 0]) ∧ Ext w w' := by
 go_enter Tryz.func25, Tryz.ntmps25
 go_wp2_with fail
 exact bodyPost_ret (v := .agg #[.int .i64 0, .int .i64 0, .slice none 0 0]) (by simp [results, Tryz.results25, go_sem, *]) rfl ⟨rfl, (by (with_reducible (repeat' (first | exact z_r _ | assumption | refine z_d ?_ | refine z_n ?_ _ | refine z_a ?_ _ | refine z_s ?_ ?_ _ | refine z_t ?_ (by assumption)))); all_goals (simp <;> omega))⟩
theorem nil_parts : Calls Tryz.prog 30 #[.pointer none] w fun e w' => e = .returned (.agg #[.int .i64 0, .int .i64 0, .int .i64 0]) ∧ Ext w w' := by
 go_enter Tryz.func30, Tryz.ntmps30
 go_wp2_with fail
 exact bodyPost_ret (v := .agg #[.int .i64 0, .int .i64 0, .int .i64 0]) (by simp [results, Tryz.results30, go_sem, *]) rfl ⟨rfl, (by (with_reducible (repeat' (first | exact z_r _ | assumption | refine z_d ?_ | refine z_n ?_ _ | refine z_a ?_ _ | refine z_s ?_ ?_ _ | refine z_t ?_ (by assumption)))); all_goals (simp <;> omega))⟩
theorem nil_gates : Calls Tryz.prog 35 #[.pointer none] w fun e w' => e = .returned (.slice none 0 0) ∧ Ext w w' := by
 go_enter Tryz.func35, Tryz.ntmps35
 go_wp2_with fail
 exact bodyPost_ret (v := .slice none 0 0) (by simp [results, Tryz.results35, go_sem, *]) rfl ⟨rfl, (by (with_reducible (repeat' (first | exact z_r _ | assumption | refine z_d ?_ | refine z_n ?_ _ | refine z_a ?_ _ | refine z_s ?_ ?_ _ | refine z_t ?_ (by assumption)))); all_goals (simp <;> omega))⟩
theorem nil_same (v : Option Addr) : Calls Tryz.prog 23 #[.pointer none, .pointer v] w fun e w' => e = .returned (.bool false) ∧ Ext w w' := by
 go_enter Tryz.func23, Tryz.ntmps23
 go_wp2_with fail
 go_ret
 exact ⟨rfl, (by (with_reducible (repeat' (first | exact z_r _ | assumption | refine z_d ?_ | refine z_n ?_ _ | refine z_a ?_ _ | refine z_s ?_ ?_ _ | refine z_t ?_ (by assumption)))); all_goals (simp <;> omega))⟩
theorem same_nil (b : Nat) : Calls Tryz.prog 23 #[.pointer (some ⟨b, 0, none⟩), .pointer none] w fun e w' => e = .returned (.bool false) ∧ Ext w w' := by
 go_enter Tryz.func23, Tryz.ntmps23
 go_wp2_with fail
 go_ret
 exact ⟨rfl, (by (with_reducible (repeat' (first | exact z_r _ | assumption | refine z_d ?_ | refine z_n ?_ _ | refine z_a ?_ _ | refine z_s ?_ ?_ _ | refine z_t ?_ (by assumption)))); all_goals (simp <;> omega))⟩
theorem nil_clone : Calls Tryz.prog 29 #[.pointer none] w fun e w' => e = .returned (.pointer none) ∧ Ext w w' := by
 go_enter Tryz.func29, Tryz.ntmps29
 go_wp2_with fail
 exact bodyPost_ret (v := .pointer none) (by simp [results, Tryz.results29, go_sem, *]) rfl ⟨rfl, (by (with_reducible (repeat' (first | exact z_r _ | assumption | refine z_d ?_ | refine z_n ?_ _ | refine z_a ?_ _ | refine z_s ?_ ?_ _ | refine z_t ?_ (by assumption)))); all_goals (simp <;> omega))⟩
end

/-- An update by any field. -/
def UpdX (w : World) (p : Spot) (R : Nat → Prop) (W H s : Int) (l : List Int) (W' H' : Int) (l' : List Int) (cs : List Cell) (e : Ending) (w' : World) : Prop :=
 (updE W H l W' H' l' cs ≠ 0 ∧ e = .returned (.tuple #[.slice none 0 0, .int .i64 (updE W H l W' H' l' cs)]) ∧ Ext w w') ∨
 (updE W H l W' H' l' cs = 0 ∧ ∃ ia k ic p' R', e = .returned (.tuple #[.slice ia k ic, .int .i64 0]) ∧ WorldAt w' p' R' W H s l' ∧ p'.b = p.b ∧ (∀ k, p'.F k ↔ p.F k) ∧ Touch p.F w w' ∧ ∀ k, R' k → R k ∨ w.heap.size ≤ k)
theorem updE_zero {W H : Int} {l : List Int} {W' H' : Int} {l' : List Int} {cs : List Cell} (h : updE W H l W' H' l' cs = 0) : checkE W' H' l'.length = 0 ∧ W' = W ∧ H' = H ∧ (cs.all fun c => inB W H c.1 c.2) = true := by
 by_cases h0 : checkE W' H' l'.length = 0
 ·by_cases h1 : W' = W ∧ H' = H
  ·obtain ⟨rfl, rfl⟩ := h1
   refine ⟨h0, rfl, rfl, ?_⟩
   cases h2 : cs.all fun c => inB W' H' c.1 c.2
   ·rw [updE_off h0 h2] at h; cases h
   ·rfl
  ·rw [updE_size h0 h1] at h; cases h
 ·rw [updE_chk h0] at h; exact absurd h h0
theorem upd_x {w : World} {p : Spot} {R : Nat → Prop} {W H s : Int} {l : List Int} (h : WorldAt w p R W H s l) {W' H' : Int} {a : Option Addr} {l' : List Int} (c : Nat) (hr : Row16 w a l') (hu : U16s l') {ca : Option Addr} {cs : List Cell} (cc : Nat) (hc : RowC w ca cs) (hm : cs.length ≤ 1000000)
  (hs : checkE W' H' l'.length = 0 → W' = W → H' = H → (gatesA W H s l').length ≤ 50000) :
  Calls Tryz.prog 22 #[.pointer (some ⟨p.b, 0, none⟩), .agg #[.int .i64 W', .int .i64 H', .slice a l'.length c], .slice ca cs.length cc] w (UpdX w p R W H s l W' H' l' cs) := by
 by_cases h0 : checkE W' H' l'.length = 0
 ·by_cases h1 : W' = W ∧ H' = H
  ·obtain ⟨rfl, rfl⟩ := h1
   refine (upd_any h c hr hu cc hc hm h0 (hs h0 rfl rfl)).mono ?_
   rintro e w' (h2 | ⟨h2, v, p', R', e1, o, r⟩)
   ·exact .inl h2
   ·obtain ⟨ia, ic, rfl⟩ := o.slice
    exact .inr ⟨h2, ia, _, ic, p', R', e1, r⟩
  ·obtain ⟨G, T, h2, _⟩ := h
   have B := h2.blk
   refine (upd_size W H W' H' a l'.length c ca cs.length cc h0 h1 (B.at 0 rfl) (B.at 1 rfl)).mono ?_
   rintro e w' ⟨rfl, x⟩
   refine .inl ⟨?_, ?_, x⟩
   ·rw [updE_size h0 h1]; decide
   ·rw [updE_size h0 h1]
 ·refine (upd_chk W' H' a l'.length c ca cs.length cc h0).mono ?_
  rintro e w' ⟨rfl, x⟩
  refine .inl ⟨?_, ?_, x⟩
  ·rw [updE_chk h0]; exact h0
  ·rw [updE_chk h0]

/-- A block of so many cells. -/
def Room (w : World) (b : Nat) (t : TypeId) (n : Nat) : Prop := ∃ cs, Blk w b t cs ∧ n ≤ cs.size
theorem Room.at {w : World} {b n : Nat} {t : TypeId} (h : Room w b t n) {i : Nat} (hi : i < n) : ∃ v, w.cell? ⟨b, i, none⟩ = some v := by
 obtain ⟨cs, h1, h2⟩ := h
 exact ⟨cs[i]'(by omega), h1.at i (by rw [Array.getElem?_eq_getElem (by omega)])⟩
theorem Room.lt {w : World} {b n : Nat} {t : TypeId} (h : Room w b t n) : b < w.heap.size := by obtain ⟨cs, h1, _⟩ := h; exact h1.lt
theorem Room.frozen {w : World} {b n : Nat} {t : TypeId} (h : Room w b t n) (i : Nat) : w.frozen? ⟨b, i, none⟩ = false := by obtain ⟨cs, h1, _⟩ := h; exact h1.frozen i
theorem Room.set {w : World} {b n : Nat} {t : TypeId} (h : Room w b t n) (i : Nat) (u : Value) : Room (w.setCell ⟨b, i, none⟩ u) b t n := by
 obtain ⟨cs, h1, h2⟩ := h
 exact ⟨_, h1.set_ i u, by simpa using h2⟩
theorem Room.ext {w w' : World} {b n : Nat} {t : TypeId} (h : Room w b t n) (x : Ext w w') : Room w' b t n := by
 obtain ⟨cs, h1, h2⟩ := h
 exact ⟨cs, h1.ext x, h2⟩
theorem Room.touch {S : Nat → Prop} {w w' : World} {b n : Nat} {t : TypeId} (h : Room w b t n) (x : Touch S w w') (hs : ¬ S b) : Room w' b t n := by
 obtain ⟨cs, h1, h2⟩ := h
 exact ⟨cs, h1.touch x hs, h2⟩
theorem room_of {α : Type} {E : Enc α} {w : World} {base n c : Nat} {e : TypeId} {a : Option Addr} {l : List α} (h : Own E w base e (.slice a n c) l) (h0 : 0 < l.length) : ∃ g, a = some ⟨g, 0, none⟩ ∧ base ≤ g ∧ Room w g e (l.length * E.size) := by
 rcases h.2 with ⟨_, hz⟩ | ⟨g, cap, cur, hv, hb, hg, hn, _, hs, _⟩
 ·omega
 ·injection hv with e1 e2 e3
  refine ⟨g, e1, hb, cur, hg, ?_⟩
  rw [hs]
  exact Nat.mul_le_mul_right _ hn
theorem Room.setAny {w : World} {b n : Nat} {t : TypeId} (h : Room w b t n) (g i : Nat) (u : Value) : Room (w.setCell ⟨g, i, none⟩ u) b t n := by
 by_cases e : b = g
 ·subst e; exact h.set i u
 ·obtain ⟨cs, h1, h2⟩ := h
  exact ⟨cs, h1.far e u, h2⟩
theorem blk_ne {w : World} {b g n : Nat} {t t' : TypeId} {cs : Array Value} (h : Blk w b t cs) (h' : Room w g t' n) (hne : t ≠ t') : b ≠ g := by
 rintro rfl
 obtain ⟨cs', h2, _⟩ := h'
 have e : some (Obj.cells cs t (0, 0)) = some (Obj.cells cs' t' (0, 0)) := h.symm.trans h2
 injection e with e
 injection e with _ e2 _
 exact hne e2
/-- A table that may be stored to: so many cells, so many rows. -/
structure TabRm (w : World) (base : Nat) (a r : Option Addr) (u v : Nat) (cs : Array Value) : Prop where
 cells : 0 < u → ∃ g, a = some ⟨g, 0, none⟩ ∧ base ≤ g ∧ Room w g 69 (u * 2)
 rows : 0 < v → ∃ g, r = some ⟨g, 0, none⟩ ∧ base ≤ g ∧ Blk w g 86 cs
 each : ∀ k, k < v → ∃ sa m sc, cs[k]? = some (.slice sa m sc) ∧ m ≤ 1000000 ∧ (0 < m → ∃ b, sa = some ⟨b, 0, none⟩ ∧ base ≤ b ∧ Room w b 87 m)
theorem TabRm.ext {w w' : World} {base u v : Nat} {a r : Option Addr} {cs : Array Value} (h : TabRm w base a r u v cs) (x : Ext w w') : TabRm w' base a r u v cs where
 cells h0 := by obtain ⟨g, h1, h2, h3⟩ := h.cells h0; exact ⟨g, h1, h2, h3.ext x⟩
 rows h0 := by obtain ⟨g, h1, h2, h3⟩ := h.rows h0; exact ⟨g, h1, h2, h3.ext x⟩
 each k hk := by
  obtain ⟨sa, m, sc, h1, h2, h3⟩ := h.each k hk
  exact ⟨sa, m, sc, h1, h2, fun h0 => by obtain ⟨b, e1, e2, e3⟩ := h3 h0; exact ⟨b, e1, e2, e3.ext x⟩⟩
theorem TabRm.set {w : World} {base u v : Nat} {a r : Option Addr} {cs : Array Value} (h : TabRm w base a r u v cs) {g n : Nat} {t : TypeId} (hg : Room w g t n) (ht : t ≠ 86) (i : Nat) (y : Value) : TabRm (w.setCell ⟨g, i, none⟩ y) base a r u v cs where
 cells h0 := by obtain ⟨b, h1, h2, h3⟩ := h.cells h0; exact ⟨b, h1, h2, h3.setAny g i y⟩
 rows h0 := by
  obtain ⟨b, h1, h2, h3⟩ := h.rows h0
  exact ⟨b, h1, h2, h3.far (blk_ne h3 hg (fun e => ht e.symm)) y⟩
 each k hk := by
  obtain ⟨sa, m, sc, h1, h2, h3⟩ := h.each k hk
  exact ⟨sa, m, sc, h1, h2, fun h0 => by obtain ⟨b, e1, e2, e3⟩ := h3 h0; exact ⟨b, e1, e2, e3.setAny g i y⟩⟩
theorem TabRm.row_at {w : World} {base u v k m sc : Nat} {a r sa : Option Addr} {cs : Array Value} (h : TabRm w base a r u v cs) (hk : k < v) (hc : cs[k]? = some (.slice sa m sc)) (h0 : 0 < m) : ∃ b, sa = some ⟨b, 0, none⟩ ∧ base ≤ b ∧ Room w b 87 m := by
 obtain ⟨sa', m', sc', h1, h2, h3⟩ := h.each k hk
 rw [hc] at h1
 injection h1 with h1
 injection h1 with e1 e2 e3
 subst e1 e2 e3
 exact h3 h0
theorem own_cellO {α : Type} {E : Enc α} {w : World} {base g n c : Nat} {e : TypeId} {l : List α} (h : Own E w base e (.slice (some ⟨g, 0, none⟩) n c) l) {k : Nat} {y : α} (hk : l[k]? = some y) {j : Nat} {u : Value} (hu : (E.cells y)[j]? = some u) : w.cell? ⟨g, k * E.size + j, none⟩ = some u ∧ w.frozen? ⟨g, k * E.size + j, none⟩ = false := by
 have h1 := (Reads.cells h.reads).2.2 k y hk j u hu
 rw [Nat.zero_add] at h1
 obtain ⟨a', c', e'⟩ := h.slice
 have en : n = l.length := by injection e'
 subst en
 have h' : w.ownsRow base e E.size (.slice (some ⟨g, 0, none⟩) l.length c) l.length (l.flatMap E.cells) := h
 exact ⟨h1, h'.frozenAt _⟩
theorem tab_room {w : World} {base n m c d : Nat} {a r : Option Addr} {cl : List Cell} {ll : List (List Int)} (h1 : Own cellE w base 69 (.slice a n c) cl) (h2 : RowsAt w base (.slice r m d) ll) (hs : ∀ x ∈ ll, x.length ≤ 1000000) :
  ∃ cs, TabRm w base a r cl.length ll.length cs := by
 obtain ⟨ss, o, e, each⟩ := h2
 obtain ⟨cs, hcs⟩ : ∃ cs : Array Value, (0 < ll.length → ∃ g, r = some ⟨g, 0, none⟩ ∧ base ≤ g ∧ Blk w g 86 cs) ∧ ∀ k, k < ll.length → ∃ sa q sc, cs[k]? = some (.slice sa q sc) ∧ ss[k]? = some (sa, q, sc) := by
  rcases o.2 with ⟨_, hz⟩ | ⟨g, cap, cur, hv, hb, hg, hn, hcap, hsz, htk⟩
  ·exact ⟨#[], fun h => by omega, fun k hk => by omega⟩
  ·injection hv with e1 e2 e3
   refine ⟨cur, fun _ => ⟨g, e1, hb, hg⟩, fun k hk => ?_⟩
   have hks : k < ss.length := by omega
   obtain ⟨⟨sa, q, sc⟩, hq⟩ : ∃ z, ss[k] = z := ⟨_, rfl⟩
   have hks2 : ss[k]? = some (sa, q, sc) := by rw [List.getElem?_eq_getElem hks, hq]
   refine ⟨sa, q, sc, ?_, hks2⟩
   have c0 := (own_cellO (by have o' := o; rw [e1] at o'; exact o') hks2 (j := 0) (u := .slice sa q sc) rfl).1
   have c1 : w.cell? ⟨g, k, none⟩ = some (.slice sa q sc) := by
    have : k * sliceE.size + 0 = k := by show k * 1 + 0 = k; omega
    rw [this] at c0; exact c0
   rw [Blk.cell (show Blk w g 86 cur from hg) k] at c1
   exact c1
 refine ⟨cs, fun h0 => ?_, hcs.1, fun k hk => ?_⟩
 ·obtain ⟨g, e1, e2, e3⟩ := room_of h1 h0
  exact ⟨g, e1, e2, e3⟩
 ·obtain ⟨sa, q, sc, c1, c2⟩ := hcs.2 k hk
  have hx := each k _ _ c2 (List.getElem?_eq_getElem hk)
  obtain ⟨a', c', hv⟩ := hx.slice
  injection hv with e1 e2 e3
  have hq : q = ll[k].length := e2
  refine ⟨sa, q, sc, c1, by rw [hq]; exact hs _ (List.getElem_mem hk), fun h0 => ?_⟩
  obtain ⟨b, f1, f2, f3⟩ := room_of hx (by rw [← hq]; exact h0)
  refine ⟨b, f1, f2, ?_⟩
  have : ll[k].length * u64E.size = q := by show ll[k].length * 1 = q; omega
  rw [this] at f3
  exact f3
end Go.Proofs.YtkioohhjjdlhiaaGreat
