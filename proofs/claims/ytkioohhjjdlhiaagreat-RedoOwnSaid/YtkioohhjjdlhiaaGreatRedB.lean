/- Walks of redo's Field, Parts, Table, Gates. -/
import Derived.Test.YtkioohhjjdlhiaaGreatRedA
set_option linter.all false
set_option linter.unusedVariables false
set_option linter.unusedSimpArgs false
namespace Go.Proofs.YtkioohhjjdlhiaaGreat
open Go.RowKit

theorem Good.len {W H s : Int} {l : List Int} (g : Good W H s l) : l.length ≤ 65536 := by
 obtain ⟨hm, hl⟩ := checkE_ok.1 g.ok
 obtain ⟨a, b, c, d⟩ := mayB_true.1 hm
 have := mul_bd (a := W) (b := H) (A := 256) (B := 256) (by omega) b (by omega) d
 omega
theorem Good.cnt {W H s : Int} {l : List Int} (g : Good W H s l) : 1 ≤ cnt W H s ∧ cnt W H s ≤ 65536 := cnt_bd g.right
theorem tabA_len {W H s id : Int} {l : List Int} (g : Good W H s l) (hi : 0 ≤ id ∧ id < cnt W H s) : (tabA W H s l id).1.length ≤ 256 ∧ (tabA W H s l id).2.length ≤ 256 ∧ ∀ r ∈ (tabA W H s l id).2, r.length ≤ 256 := by
 have h := cellsL_len g.right hi.1 hi.2 (gatesA W H s l)
 unfold tabA
 rw [tabL_eq (g.box hi)]
 refine ⟨h, by rw [List.length_map]; exact h, fun r hr => ?_⟩
 obtain ⟨c, _, rfl⟩ := List.mem_map.1 hr
 unfold rowD
 rw [List.length_map]
 exact h

theorem own_tab_at {w : World} {base n c g : Nat} {e : TypeId} {ts : List (Sl × Sl)} {j : Nat} {q : Sl × Sl} (h : Own tabE w base e (.slice (some ⟨g, 0, none⟩) n c) ts) (hj : ts[j]? = some q) :
  w.cell? ⟨g, j * 2, none⟩ = some (slV q.1) ∧ w.cell? ⟨g, j * 2 + 1, none⟩ = some (slV q.2) := by
 obtain ⟨hjl, rfl⟩ := List.getElem?_eq_some_iff.1 hj
 obtain ⟨a', c', en⟩ := h.slice
 have en' : n = ts.length := by injection en
 clear en
 subst en'
 have h' : w.ownsRow base e 2 (.slice (some ⟨g, 0, none⟩) ts.length c) ts.length (ts.flatMap tabE.cells) := h
 have f0 := flat_at tabE ts j _ (List.getElem?_eq_getElem hjl) 0 (slV ts[j].1) rfl
 have f1 := flat_at tabE ts j _ (List.getElem?_eq_getElem hjl) 1 (slV ts[j].2) rfl
 have e0 : (ts.flatMap tabE.cells)[j * 2]? = some (slV ts[j].1) := f0
 have e1 : (ts.flatMap tabE.cells)[j * 2 + 1]? = some (slV ts[j].2) := f1
 have hz : ts.length * tabE.size = ts.length * 2 := rfl
 have c0 := World.ownsRow.cellAt (size := 2) h' (j * 2) (by omega)
 have c1 := World.ownsRow.cellAt (size := 2) h' (j * 2 + 1) (by omega)
 rw [e0] at c0
 rw [e1] at c1
 exact ⟨c0, c1⟩

section
variable {w : World} {p : Spot} {R : Nat → Prop} {W H s : Int} {l : List Int} {G : Int → Int → Option (List (Cell × Cell))} {T : List Tab}

set_option maxRecDepth 100000 in
theorem rdField_any (h : Stand w p R W H s l G T) : Calls Tryz.prog 25 #[.pointer (some ⟨p.b, 0, none⟩)] w (RetField w W H l) := by
 have HO := hide (fun (w' : World) (hx : Ext w w') => rdOwn_any (w := w') W H p.cc (by have := h.good.len; omega) (h.row.ext hx))
 have B := hide h.blk
 unfold worldCells at B
 obtain ⟨n, hn⟩ : ∃ z, l.length = z := ⟨_, rfl⟩
 have HN := hide hn
 rw [hn] at HO B
 clear h hn
 have b0 := B.out.at 0 rfl; have b1 := B.out.at 1 rfl; have b2 := B.out.at 2 rfl; have bz := B.out.lt
 go_enter Tryz.func25, Tryz.ntmps25
 go_wp2_with fail
 refine (HO.out _ (by (with_reducible (repeat' (first | exact z_r _ | assumption | refine z_d ?_ | refine z_n ?_ _ | refine z_a ?_ _ | refine z_s ?_ ?_ _ | refine z_t ?_ (by assumption)))); all_goals (simp <;> omega))).mono ?_
 rintro e w1 ⟨sa, sc, rfl, hb1, ho1⟩
 rw [HN.out] at ho1 ⊢
 have R1 : Hid (Blk w1 (w.heap.size) 26 #[.int .i64 0, .int .i64 0, .slice none 0 0]) := hide (by refine Blk.ext ?_ hb1; (repeat' (first | exact Blk.new_ (by simp) | refine Blk.drew ?_ | refine Blk.over ?_)))
 have HX1 := hide (show Ext w w1 from (by (with_reducible (repeat' (first | exact z_r _ | assumption | refine z_d ?_ | refine z_n ?_ _ | refine z_a ?_ _ | refine z_s ?_ ?_ _ | refine z_t ?_ (by assumption)))); all_goals (simp <;> omega)))
 have O1 := hide ho1
 clear hb1 ho1
 have z1 := HX1.out.size
 have r0 := R1.out.at 0 rfl; have r1 := R1.out.at 1 rfl; have r2 := R1.out.at 2 rfl; have rz := R1.out.lt
 have f0 := R1.out.frozen 0
 have f1 := R1.out.frozen 1
 have f2 := R1.out.frozen 2
 have FIN : Hid (∀ w', Touch (fun j => j = w.heap.size) w1 w' → Ext w w' ∧ Own u16G w' w.heap.size 83 (.slice sa n sc) l) := hide (fun w' tt => ⟨((Touch.of_ext (S := fun _ => False) HX1.out).after tt (fun j hj e => by omega)).ext, (Own.touch O1.out tt (fun k hk e => by have := (own_lt O1.out hk).1; simp at this; omega)).lower (by simp)⟩)
 go_wp2_with fail
 exact bodyPost_ret (v := .agg #[.int .i64 W, .int .i64 H, .slice sa n sc]) (by simp [results, Tryz.results25, go_sem, *]) rfl ⟨sa, sc, by rw [HN.out], by rw [HN.out]; exact FIN.out _ (by (with_reducible (repeat' (first | exact Touch.refl _ _ | refine Touch.setCell ?_ (.inl ?_) _))); all_goals simp)⟩

set_option maxRecDepth 100000 in
theorem rdParts_any (h : Stand w p R W H s l G T) : Calls Tryz.prog 30 #[.pointer (some ⟨p.b, 0, none⟩)] w fun e w' => e = .returned (.agg #[.int .i64 W, .int .i64 H, .int .i64 s]) ∧ Ext w w' := by
 have B := hide h.blk
 unfold worldCells at B
 have b3 := B.out.at 3 rfl
 have b4 := B.out.at 4 rfl
 have b5 := B.out.at 5 rfl
 have bz := B.out.lt
 clear h
 go_enter Tryz.func30, Tryz.ntmps30
 go_wp2_with fail
 exact bodyPost_ret (v := .agg #[.int .i64 W, .int .i64 H, .int .i64 s]) (by simp [results, Tryz.results30, go_sem, *]) rfl ⟨rfl, (by (with_reducible (repeat' (first | exact z_r _ | assumption | refine z_d ?_ | refine z_n ?_ _ | refine z_a ?_ _ | refine z_s ?_ ?_ _ | refine z_t ?_ (by assumption)))); all_goals (simp <;> omega))⟩
end

/-- What Table tells. -/
def RetTabE (w : World) (t : Tab) (e : Ending) (w' : World) : Prop := ∃ v1 v2, e = .returned (.tuple #[.agg #[v1, v2], .int .i64 0]) ∧ Ext w w' ∧ Own cellE w' w.heap.size 69 v1 t.1 ∧ RowsAt w' w.heap.size v2 t.2

set_option maxRecDepth 100000 in
theorem rdTable_yes {w : World} {p : Spot} {R : Nat → Prop} {W H s : Int} {l : List Int} (h : WorldAt w p R W H s l) (k : Nat) (hk : (k : Int) < cnt W H s) :
  Calls Tryz.prog 33 #[.pointer (some ⟨p.b, 0, none⟩), .int .i64 (k : Int)] w (RetTabE w (tabA W H s l (k : Int))) := by
 obtain ⟨G, T, h1, h2⟩ := h
 obtain ⟨N, hN⟩ : ∃ z, T.length = z := ⟨_, rfl⟩
 have hkN : k < N := by have := h1.num; omega
 obtain ⟨ts, t1, t2, t3⟩ := h1.tabs
 obtain ⟨q, hq⟩ : ∃ q, ts[k]? = some q := ⟨_, List.getElem?_eq_getElem (by omega)⟩
 have TA := t3 k q _ hq (h2.tabs k (by omega))
 obtain ⟨n1, n2, n3⟩ := tabA_len h1.good (id := (k : Int)) ⟨by omega, hk⟩
 have CA := own_tab_at t1 hq
 obtain ⟨⟨q1, q2, q3⟩, ⟨q4, q5, q6⟩⟩ := q
 generalize tabA W H s l (k : Int) = t at *
 obtain ⟨cs, ll⟩ := t
 obtain ⟨⟨tp, _⟩, tr⟩ := TA
 have ra := tr.at0
 simp only [slV] at tp ra CA n1 n2 n3
 obtain ⟨e1, rc⟩ := Reads.rowC tp.reads
 obtain ⟨_, _, e2, _⟩ := rowsU_of ra
 have ru := ra.u
 have e3 : q5 = ll.length := by injection e2
 subst e1 e3
 have HT := hide (fun (w' : World) (hx : Ext w w') => table_any (w := w') q3 q6 (rc.ext hx) (by omega) (ru.ext hx) (by omega) (fun r hr => by have := n3 r hr; omega))
 have B := hide h1.blk
 unfold worldCells at B
 rw [hN] at B
 have b7 := B.out.at 7 rfl
 have bz := B.out.lt
 obtain ⟨c0, c1⟩ := CA
 have ztb := World.block_lt_of_cell? w _ c0
 simp only at ztb
 have d1 : decide ((k : Int) < 0) = false := by simp
 have d2 : decide ((N : Int) ≤ (k : Int)) = false := by simp; omega
 have d3 : decide (N ≤ k) = false := by simp; omega
 have jk : (k : Int) < (N : Int) := by omega
 obtain ⟨n, hn⟩ : ∃ z, cs.length = z := ⟨_, rfl⟩
 obtain ⟨m, hm⟩ : ∃ z, ll.length = z := ⟨_, rfl⟩
 rw [hn, hm] at HT
 rw [hn] at c0
 rw [hm] at c1
 clear h1 h2 hN t1 t2 t3 hq tp tr ra rc ru n1 n2 n3 e2 hk hn hm
 go_enter Tryz.func33, Tryz.ntmps33
 go_wp2_with fail
 refine (HT.out _ (by (with_reducible (repeat' (first | exact z_r _ | assumption | refine z_d ?_ | refine z_n ?_ _ | refine z_a ?_ _ | refine z_s ?_ ?_ _ | refine z_t ?_ (by assumption)))); all_goals (simp <;> omega))).mono ?_
 rintro e w1 ⟨v1, v2, rfl, hb1, ho1, hr1⟩
 obtain ⟨sa, sc, rfl⟩ := ho1.slice
 obtain ⟨ra, rc, rfl, _⟩ := rowsU_of hr1
 have R1 : Hid (Blk w1 (w.heap.size) 74 #[.slice none 0 0, .slice none 0 0]) := hide (by refine Blk.ext ?_ hb1; (repeat' (first | exact Blk.new_ (by simp) | refine Blk.drew ?_ | refine Blk.over ?_)))
 have HX1 := hide (show Ext w w1 from (by (with_reducible (repeat' (first | exact z_r _ | assumption | refine z_d ?_ | refine z_n ?_ _ | refine z_a ?_ _ | refine z_s ?_ ?_ _ | refine z_t ?_ (by assumption)))); all_goals (simp <;> omega)))
 have O1 := hide ho1
 have S1 := hide hr1
 clear hb1 ho1 hr1
 have z1 := HX1.out.size
 have r0 := R1.out.at 0 rfl; have r1 := R1.out.at 1 rfl; have rz := R1.out.lt
 have f0 := R1.out.frozen 0
 have f1 := R1.out.frozen 1
 have FIN : Hid (∀ w', Touch (fun j => j = w.heap.size) w1 w' → Ext w w' ∧ Own cellE w' w.heap.size 69 (.slice sa cs.length sc) cs ∧ RowsAt w' w.heap.size (.slice ra ll.length rc) ll) := hide (fun w' tt => ⟨((Touch.of_ext (S := fun _ => False) HX1.out).after tt (fun j hj e => by omega)).ext, (Own.touch O1.out tt (fun k hk e => by have := (own_lt O1.out hk).1; simp at this; omega)).lower (by simp), (S1.out.touch tt (fun j hj e => by simp at hj; omega)).lower (by simp)⟩)
 go_wp2_with fail
 exact bodyPost_ret (v := .tuple #[.agg #[.slice sa cs.length sc, .slice ra ll.length rc], .int .i64 0]) (by simp [results, Tryz.results33, go_sem, *]) rfl ⟨_, _, rfl, FIN.out _ (by (with_reducible (repeat' (first | exact Touch.refl _ _ | refine Touch.setCell ?_ (.inl ?_) _))); all_goals simp)⟩

set_option maxRecDepth 100000 in
theorem rdTable_no {w : World} {p : Spot} {R : Nat → Prop} {W H s : Int} {l : List Int} (h : WorldAt w p R W H s l) (id : Int) (hk : id < 0 ∨ id = cnt W H s) :
  Calls Tryz.prog 33 #[.pointer (some ⟨p.b, 0, none⟩), .int .i64 id] w fun e w' => e = .returned (.tuple #[.agg #[.slice none 0 0, .slice none 0 0], .int .i64 10]) ∧ Ext w w' := by
 obtain ⟨G, T, h1, h2⟩ := h
 obtain ⟨N, hN⟩ : ∃ z, T.length = z := ⟨_, rfl⟩
 have hnum := h1.num
 have B := hide h1.blk
 unfold worldCells at B
 rw [hN] at B hnum
 have b7 := B.out.at 7 rfl
 have bz := B.out.lt
 rcases hk with hk | hk
 ·clear h1 h2 hN hnum
  have d1 : decide (id < 0) = true := by simpa using hk
  go_enter Tryz.func33, Tryz.ntmps33
  go_wp2_with fail
  exact bodyPost_ret (v := .tuple #[.agg #[.slice none 0 0, .slice none 0 0], .int .i64 10]) (by simp [results, Tryz.results33, go_sem, *]) rfl ⟨rfl, (by (with_reducible (repeat' (first | exact z_r _ | assumption | refine z_d ?_ | refine z_n ?_ _ | refine z_a ?_ _ | refine z_s ?_ ?_ _ | refine z_t ?_ (by assumption)))); all_goals (simp <;> omega))⟩
 ·obtain rfl : id = (N : Int) := by omega
  clear h1 h2 hN hnum hk
  have d1 : decide ((N : Int) < 0) = false := by simp
  go_enter Tryz.func33, Tryz.ntmps33
  go_wp2_with fail
  exact bodyPost_ret (v := .tuple #[.agg #[.slice none 0 0, .slice none 0 0], .int .i64 10]) (by simp [results, Tryz.results33, go_sem, *]) rfl ⟨rfl, (by (with_reducible (repeat' (first | exact z_r _ | assumption | refine z_d ?_ | refine z_n ?_ _ | refine z_a ?_ _ | refine z_s ?_ ?_ _ | refine z_t ?_ (by assumption)))); all_goals (simp <;> omega))⟩
end Go.Proofs.YtkioohhjjdlhiaaGreat
