/- How a world's parts are turned one by one; the closure of build. -/
import Derived.Test.YtkioohhjjdlhiaaGreatRedG
set_option linter.all false
set_option linter.unusedVariables false
set_option linter.unusedSimpArgs false
namespace Go.Proofs.YtkioohhjjdlhiaaGreat
open Go.RowKit

theorem cellsE_of {W H s id : Int} {l : List Cell} : ∀ {n : Nat}, (∀ k, k < n → cellBad W H s id l k = 0) → cellsE W H s id l n = 0
 | 0, _ => rfl
 | n + 1, h => cellsE_next (cellsE_of fun k hk => h k (by omega)) (h n (by omega))

theorem celA_in {W H s id : Int} {l : List Int} (g : Good W H s l) (hi : 0 ≤ id ∧ id < cnt W H s) {c : Cell} (hc : c ∈ celA W H s l id) : inId W H s id c = true := by
 obtain ⟨h1, h2⟩ := ((cellsL_mem g.right hi.1 hi.2).1 hc).1
 unfold inId
 simp [h1, h2]
theorem celA_int {W H s id : Int} {l : List Int} (g : Good W H s l) (hi : 0 ≤ id ∧ id < cnt W H s) : ∀ q ∈ celA W H s l id, InI q.1 ∧ InI q.2 := fun q hq => by
 obtain ⟨h1, _⟩ := ((cellsL_mem g.right hi.1 hi.2).1 hq).1
 have := inB_true.1 h1
 obtain ⟨r1, r2, r3, r4, r5, r6⟩ := rightB_true.1 g.right
 unfold InI
 omega
theorem celA_ok {W H s id : Int} {l : List Int} (g : Good W H s l) (hi : 0 ≤ id ∧ id < cnt W H s) : innerE W H l.length W H s id (celA W H s l id) = 0 := by
 refine innerE_ok.2 ⟨g.ok, rfl, rfl, g.right, hi, cellsE_of fun k hk => ?_⟩
 have hin := celA_in g hi (List.getElem_mem hk)
 have hst := cellsL_strict W H s id (gatesA W H s l)
 have hst' : (celA W H s l id).Pairwise ltC := hst
 unfold cellBad
 have e : (celA W H s l id).getD k (0, 0) = (celA W H s l id)[k] := by simp [List.getD_eq_getElem?_getD, hk]
 rw [e, if_neg (by rw [hin]; simp)]
 rw [if_neg]
 rintro ⟨h0, hr⟩
 have e2 : (celA W H s l id).getD (k - 1) (0, 0) = (celA W H s l id)[k - 1] := by
  have : k - 1 < (celA W H s l id).length := by omega
  simp [List.getD_eq_getElem?_getD, this]
 rw [e2] at hr
 have hlt := List.pairwise_iff_getElem.1 hst' (k - 1) k (by omega) hk (by omega)
 unfold ltC at hlt
 unfold riseB at hr
 simp at hr
 omega
theorem celA_len {W H s id : Int} {l : List Int} (g : Good W H s l) (hi : 0 ≤ id ∧ id < cnt W H s) : (celA W H s l id).length ≤ 256 := cellsL_len g.right hi.1 hi.2 _

def boolE : Enc Bool := ⟨1, fun x => [.bool x], fun _ => rfl, fun _ u hu => by simp at hu; subst hu; rfl⟩
theorem T_bools : ElemT Tryz.prog 71 4 (.bool false) 1 1 := ⟨Tryz.underlying71, by kernel_rfl, rfl, by decide⟩
theorem own_bool_at {w : World} {base n c g : Nat} {e : TypeId} {l : List Bool} {j : Nat} {b : Bool} (h : Own boolE w base e (.slice (some ⟨g, 0, none⟩) n c) l) (hj : l[j]? = some b) : w.cell? ⟨g, j, none⟩ = some (.bool b) := by
 obtain ⟨hjl, rfl⟩ := List.getElem?_eq_some_iff.1 hj
 obtain ⟨a', c', en⟩ := h.slice
 have en' : n = l.length := by injection en
 clear en
 subst en'
 have h' : w.ownsRow base e 1 (.slice (some ⟨g, 0, none⟩) l.length c) l.length (l.flatMap boolE.cells) := h
 have f0 := flat_at boolE l j _ (List.getElem?_eq_getElem hjl) 0 (.bool l[j]) rfl
 have e0 : (l.flatMap boolE.cells)[j]? = some (.bool l[j]) := by
  have e : j * boolE.size + 0 = j := by show j * 1 + 0 = j; omega
  rwa [e] at f0
 have c0 := World.ownsRow.cellAt (size := 1) h' j (by omega)
 rw [e0] at c0
 exact c0

def updG (G : Int → Int → Option (List (Cell × Cell))) (x y : Int) (L : List (Cell × Cell)) (a b : Int) : Option (List (Cell × Cell)) := if a = x ∧ b = y then some L else G a b

section
variable {w : World} {p : Spot} {R : Nat → Prop} {W H s : Int} {l : List Int} {G : Int → Int → Option (List (Cell × Cell))} {T : List Tab}
theorem Stand.put (h : Stand w p R W H s l G T) {x y : Int} (hx : Rg x y) {v : Value} {L : List (Cell × Cell)} (o : Own pairE w 0 85 v L) (i : InR R v) :
  ∃ w', (Instr.mapUpdate 130 (.map (some p.m)) (.agg #[.int .i64 x, .int .i64 y]) v).run Tryz.prog w = .ok () w' ∧ Stand w' p R W H s l (updG G x y L) T ∧ Touch (fun k => k = p.m) w w' := by
 have hbm := h.bm
 have hmt := h.mt
 obtain ⟨f, mv, hf⟩ := h.gates
 obtain ⟨w', hrun, mv', t⟩ := mv.put hx v
 have hR : ∀ k, R k → ¬ k = p.m := fun k hk e => h.apart k hk (.inr (.inl e))
 refine ⟨w', hrun, ⟨h.good, h.blk.touch t (fun e => hbm e), h.cost.touch t (fun k hk => hR k (h.costR k hk)), h.costR, ⟨_, mv', fun a b => ?_⟩, ?_, h.num, fun k hk => Nat.lt_of_lt_of_le (h.lt k hk) t.size, h.apart⟩, t⟩
 ·unfold upd2 updG
  by_cases hk : a = x ∧ b = y
  ·rw [if_pos hk, if_pos hk]
   exact .inr ⟨v, L, rfl, rfl, o.touch t (fun k hk => hR k (i k hk)), i⟩
  ·rw [if_neg hk, if_neg hk]
   refine (hf a b).imp id ?_
   rintro ⟨v, L, e1, e2, o, i⟩
   exact ⟨v, L, e1, e2, o.touch t (fun k hk => hR k (i k hk)), i⟩
 ·obtain ⟨ts, h1, h2⟩ := h.tabs
  exact ⟨ts, h1.touch t (fun k hk e => by cases hk; exact hmt e.symm), h2.touch t hR⟩

theorem touchTab (w : World) (g k : Nat) (u v : Value) : Touch (fun j => j = g) w ((w.setCell ⟨g, k * 2, none⟩ u).setCell ⟨g, k * 2 + 1, none⟩ v) :=
 ((Touch.refl (fun j => j = g) w).setCell (p := ⟨g, k * 2, none⟩) (.inl rfl) u).setCell (p := ⟨g, k * 2 + 1, none⟩) (.inl rfl) v
theorem Stand.setTab (h : Stand w p R W H s l G T) {k : Nat} (hk : k < T.length) {q : Sl × Sl} {t : Tab} (hT : TabR R w q t) :
  Stand ((w.setCell ⟨p.tb, k * 2, none⟩ (slV q.1)).setCell ⟨p.tb, k * 2 + 1, none⟩ (slV q.2)) p R W H s l G (T.set k t) := by
 have tt := touchTab w p.tb k (slV q.1) (slV q.2)
 have hbt := h.bt
 have hmt := h.mt
 have hR : ∀ j, R j → ¬ j = p.tb := fun j hj e => h.apart j hj (.inr (.inr e))
 obtain ⟨ts, h1, h2, h3⟩ := h.tabs
 refine ⟨h.good, by rw [List.length_set]; exact h.blk.touch tt hbt, h.cost.touch tt (fun k hk => hR k (h.costR k hk)), h.costR, h.gates.touch tt hmt hR, ⟨ts.set k q, ?_, ?_, ?_⟩, by rw [List.length_set]; exact h.num, fun k hk => Nat.lt_of_lt_of_le (h.lt k hk) tt.size, h.apart⟩
 ·rw [List.length_set]
  exact Own.turn (E := tabE) h1 (by rw [h2]; exact hk) q
 ·simp [h2]
 ·intro i a b ha hb
  rw [List.getElem?_set] at ha hb
  by_cases hi : k = i
  ·subst hi
   rw [if_pos rfl] at ha hb
   rw [if_pos (by rw [h2]; exact hk)] at ha
   rw [if_pos hk] at hb
   cases ha
   cases hb
   exact hT.touch tt hR
  ·rw [if_neg hi] at ha hb
   exact (h3 i a b ha hb).touch tt hR

set_option maxRecDepth 100000 in
theorem stale_any (h : Stand w p R W H s l G T) {b1 b2 tg tc N k : Nat} {tk : Bool} (h1 : w.cell? ⟨b1, 0, none⟩ = some (.slice (some ⟨tg, 0, none⟩) N tc)) (h2 : w.cell? ⟨b2, 0, none⟩ = some (.pointer (some ⟨p.b, 0, none⟩)))
  (hN : T.length = N) (hk : k < N) (hb : w.cell? ⟨tg, k, none⟩ = some (.bool tk)) {a : Option Addr} {cs : List Cell} (c : Nat) (hc : RowC w a cs) (hl : cs.length ≤ 1000000) {t : Tab} (hT : T[k]? = some t) :
  Calls Tryz.prog 112 (#[.int .i64 (k : Int), .slice a cs.length c] ++ #[.pointer (some ⟨b1, 0, none⟩), .pointer (some ⟨b2, 0, none⟩)]) w fun e w' => e = .returned (.bool (tk || !(decide (cs = t.1)))) ∧ Ext w w' := by
 have z1 := World.block_lt_of_cell? w _ h1
 have z2 := World.block_lt_of_cell? w _ h2
 have zb := World.block_lt_of_cell? w _ hb
 simp only at z1 z2 zb
 have jk : (k : Int) < (N : Int) := by omega
 simp only [List.append_toArray]
 cases tk with
 | true =>
  clear h hc hT hl
  go_enter Tryz.func112, Tryz.ntmps112
  go_wp2_with fail
  go_ret
  exact ⟨rfl, (by (with_reducible (repeat' (first | exact z_r _ | assumption | refine z_d ?_ | refine z_n ?_ _ | refine z_a ?_ _ | refine z_s ?_ ?_ _ | refine z_t ?_ (by assumption)))); all_goals (simp <;> omega))⟩
 | false =>
  obtain ⟨ts, t1, t2, t3⟩ := h.tabs
  obtain ⟨q, hq⟩ : ∃ q, ts[k]? = some q := ⟨_, List.getElem?_eq_getElem (by omega)⟩
  have TA := (t3 k q _ hq hT).1.1
  have CA := (own_tab_at t1 hq).1
  obtain ⟨⟨q1, q2, q3⟩, q4⟩ := q
  simp only [slV] at TA CA
  obtain ⟨e1, rc⟩ := Reads.rowC TA.reads
  subst e1
  have HE := hide (fun (w' : World) (x : Ext w w') => equalCell_any a q1 cs t.1 c q3 w' hl (hc.ext x) (rc.ext x))
  have B := hide h.blk
  unfold worldCells at B
  rw [hN] at B
  have b7 := B.out.at 7 rfl
  have bz := B.out.lt
  have ztb := World.block_lt_of_cell? w _ CA
  simp only at ztb
  generalize t.1 = cs2 at *
  generalize decide (cs = cs2) = dd at *
  obtain ⟨n, hn⟩ : ∃ z, cs.length = z := ⟨_, rfl⟩
  obtain ⟨m, hm⟩ : ∃ z, cs2.length = z := ⟨_, rfl⟩
  rw [hn, hm] at HE
  rw [hm] at CA
  rw [hn]
  clear h hc hT hl t1 t2 t3 hq TA rc hN hn hm
  go_enter Tryz.func112, Tryz.ntmps112
  go_wp2_with fail
  refine (HE.out _ (by (with_reducible (repeat' (first | exact z_r _ | assumption | refine z_d ?_ | refine z_n ?_ _ | refine z_a ?_ _ | refine z_s ?_ ?_ _ | refine z_t ?_ (by assumption)))); all_goals (simp <;> omega))).mono ?_
  rintro e w1 ⟨rfl, x1⟩
  have X1 := hide x1
  clear x1
  go_wp2_with fail
  go_ret
  exact ⟨by simp, Ext.trans (by (with_reducible (repeat' (first | exact z_r _ | assumption | refine z_d ?_ | refine z_n ?_ _ | refine z_a ?_ _ | refine z_s ?_ ?_ _ | refine z_t ?_ (by assumption)))); all_goals (simp <;> omega)) X1.out⟩
end
end Go.Proofs.YtkioohhjjdlhiaaGreat
