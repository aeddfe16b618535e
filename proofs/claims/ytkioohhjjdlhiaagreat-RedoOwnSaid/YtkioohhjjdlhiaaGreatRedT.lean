/- redo's Clone. -/
import Derived.Test.YtkioohhjjdlhiaaGreatRedJ
import Derived.Test.YtkioohhjjdlhiaaGreatLayP
import Derived.Shelf.SlMaps.Clone
set_option linter.all false
set_option linter.unusedVariables false
set_option linter.unusedSimpArgs false
namespace Go.Proofs.YtkioohhjjdlhiaaGreat
open Go.RowKit

theorem mapClone2_any {w : World} {b : Nat} {f : Int → Int → Option Value} (h : MapV w b f) :
  Calls Tryz.prog 74 #[.map (some b)] w fun e w' => ∃ m, e = .returned (.map (some m)) ∧ Ext w w' ∧ w.heap.size ≤ m ∧ MapV w' m f := by
 obtain ⟨D, ks, h1, r⟩ := h
 refine (Go.Proofs.AnyW.maps_Clone_owns cloneP _ _ _ _ D w h1).mono fun e w' ⟨he, h2, _, hb⟩ => ⟨_, he, hb, Nat.le_refl _, D, ks, h2, r⟩

/-- A world of one's own, the same. -/
def Cloned (w : World) (p : Spot) (R : Nat → Prop) (W H s : Int) (l : List Int) (e : Ending) (w' : World) : Prop :=
 ∃ p' R', e = .returned (.pointer (some ⟨p'.b, 0, none⟩)) ∧ Ext w w' ∧ WorldAt w' p' R' W H s l ∧ (∀ k, p'.F k → w.heap.size ≤ k) ∧ ∀ k, R' k → R k ∨ w.heap.size ≤ k

set_option maxRecDepth 100000 in
set_option maxHeartbeats 2000000 in
theorem rdClone_any {w : World} {p : Spot} {R : Nat → Prop} {W H s : Int} {l : List Int} (h : WorldAt w p R W H s l) :
  Calls Tryz.prog 29 #[.pointer (some ⟨p.b, 0, none⟩)] w (Cloned w p R W H s l) := by
 obtain ⟨G, T, hst, hfull⟩ := h
 have hlen := hst.good.len
 have hnum := hst.num
 have hcn := hst.good.cnt
 have HST := hide hst
 have HFL := hide hfull
 have HO := hide (fun (w' : World) (hx : Ext w w') => rdOwn_any (w := w') W H p.cc (by omega) (hst.row.ext hx))
 obtain ⟨f, mv, hf⟩ := hst.gates
 have MV := hide mv
 have HF := hide hf
 obtain ⟨N, hN⟩ : ∃ z, T.length = z := ⟨_, rfl⟩
 have HN := hide hN
 have HC := hide (show cnt W H s = (N : Int) by omega)
 have hN2 : N ≤ 65536 := by omega
 have HTA := hide (show TabsAt w p.tb N p.tc T from by obtain ⟨ts, h1, h2⟩ := hst.tabs; rw [hN] at h1; exact ⟨R, ts, h1, h2⟩)
 have HTS := hide (show ∀ t ∈ T, t.1.length ≤ 256 ∧ t.2.length ≤ 256 ∧ ∀ r ∈ t.2, r.length ≤ 256 from fun t ht => by
  obtain ⟨i, hi, rfl⟩ := List.getElem_of_mem ht
  have h := hfull.tabs i hi
  rw [List.getElem?_eq_getElem hi] at h
  rw [Option.some.inj h]
  exact tabA_len hst.good ⟨by omega, by omega⟩)
 have B := hide hst.blk
 unfold worldCells at B
 obtain ⟨n, hn⟩ : ∃ z, l.length = z := ⟨_, rfl⟩
 have HL := hide hn
 rw [hN, hn] at B
 rw [hn] at HO
 have b0 := B.out.at 0 rfl; have b1 := B.out.at 1 rfl; have b2 := B.out.at 2 rfl; have b3 := B.out.at 3 rfl; have b4 := B.out.at 4 rfl; have b5 := B.out.at 5 rfl; have b6 := B.out.at 6 rfl; have b7 := B.out.at 7 rfl; have bz := B.out.lt
 have hzt := hst.foot (k := p.tb) (.inr (.inr rfl))
 clear hst hfull mv hf hlen hnum hcn hN hn
 go_enter Tryz.func29, Tryz.ntmps29
 go_wp2_with fail
 refine seqH_start (S := (fun W => (∀ b o, b < w.heap.size → W.cell? ⟨b, o, none⟩ = w.cell? ⟨b, o, none⟩) ∧ Ext w W)) [(0, true), (1, true), (2, true), (3, true), (5, true), (6, true), (7, true), (8, true), (9, true), (10, true), (11, true), (12, true), (4, false), (13, false), (14, true), (15, false), (16, true)] (by kernel_rfl) (by kernel_rfl) (by kernel_rfl) (by decide) (fun _ _ d _ _ h => by cases d <;> exact h) (by first | with_reducible exact pr_start _ | exact pr_of (by (with_reducible (repeat' (first | exact z_r _ | assumption | refine z_d ?_ | refine z_n ?_ _ | refine z_a ?_ _ | refine z_s ?_ ?_ _ | refine z_t ?_ (by assumption)))); all_goals (simp <;> omega))) (fun hHeld => ?_)
 iterate 12 (apply SeqH.free; (· (simp only [z_0, z_1, z_2]; rfl)); (· first | exact Or.inr ⟨by rfl, rfl⟩ | (refine Or.inl ⟨by rfl, ?_⟩; intro w hSw; (try dsimp only at hSw); go_simp; try with_reducible rfl)); try simp only [Act.put, z_3, z_4, z_5])
 (apply SeqH.step; (· (simp only [z_0, z_1, z_2]; rfl)); intro K hK; go_simp; refine (HO.out _ (by (with_reducible (repeat' (first | exact z_r _ | assumption | refine z_d ?_ | refine z_n ?_ _ | refine z_a ?_ _ | refine z_s ?_ ?_ _ | refine z_t ?_ (by assumption)))); all_goals (simp <;> omega))).mono ?_; rintro e w3 ⟨sa, sc, rfl, x3, o3⟩; rw [HL.out] at o3 ⊢; have O3 := hide o3; clear o3; go_wp2_with fail; refine hK.out _ _ (pr_of (by (with_reducible (repeat' (first | exact z_r _ | assumption | refine z_d ?_ | refine z_n ?_ _ | refine z_a ?_ _ | refine z_s ?_ ?_ _ | refine z_t ?_ (by assumption)))); all_goals (simp <;> omega))) (fun hHeld => ?_); clear hK K; try simp only [Act.put, z_3, z_4, z_5])
 (apply SeqH.step; (· (simp only [z_0, z_1, z_2]; rfl)); intro K hK; go_simp; refine (mapClone2_any (MV.out.ext (by (with_reducible (repeat' (first | exact z_r _ | assumption | refine z_d ?_ | refine z_n ?_ _ | refine z_a ?_ _ | refine z_s ?_ ?_ _ | refine z_t ?_ (by assumption)))); all_goals (simp <;> omega)))).mono ?_; rintro e w4 ⟨mb, rfl, x4, hmb, hm4⟩; have M4 := hide hm4; have O4 := hide (O3.out.ext x4); clear hm4; go_wp2_with fail; refine hK.out _ _ (pr_of (by (with_reducible (repeat' (first | exact z_r _ | assumption | refine z_d ?_ | refine z_n ?_ _ | refine z_a ?_ _ | refine z_s ?_ ?_ _ | refine z_t ?_ (by assumption)))); all_goals (simp <;> omega))) (fun hHeld => ?_); clear hK K; try simp only [Act.put, z_3, z_4, z_5])
 iterate 1 (apply SeqH.free; (· (simp only [z_0, z_1, z_2]; rfl)); (· first | exact Or.inr ⟨by rfl, rfl⟩ | (refine Or.inl ⟨by rfl, ?_⟩; intro w hSw; (try dsimp only at hSw); go_simp; try with_reducible rfl)); try simp only [Act.put, z_3, z_4, z_5])
 (apply SeqH.step; (· (simp only [z_0, z_1, z_2]; rfl)); intro K hK; go_simp; refine hK.out _ _ (pr_of (by (with_reducible (repeat' (first | exact z_r _ | assumption | refine z_d ?_ | refine z_n ?_ _ | refine z_a ?_ _ | refine z_s ?_ ?_ _ | refine z_t ?_ (by assumption)))); all_goals (simp <;> omega))) (fun hHeld => ?_); clear hK K; try simp only [Act.put, z_3, z_4, z_5])
 iterate 1 (apply SeqH.free; (· (simp only [z_0, z_1, z_2]; rfl)); (· first | exact Or.inr ⟨by rfl, rfl⟩ | (refine Or.inl ⟨by rfl, ?_⟩; intro w hSw; (try dsimp only at hSw); go_simp; try with_reducible rfl)); try simp only [Act.put, z_3, z_4, z_5])
 refine SeqH.done ?_
 obtain ⟨wa, hwa⟩ : ∃ z, z = w4.alloc (.cells #[.int .i64 W, .int .i64 H, .slice sa n sc, .int .i64 W, .int .i64 H, .int .i64 s, .map (some mb), .slice none 0 0] 133) := ⟨_, rfl⟩
 have XW4 : Ext w w4 := (by (with_reducible (repeat' (first | exact z_r _ | assumption | refine z_d ?_ | refine z_n ?_ _ | refine z_a ?_ _ | refine z_s ?_ ?_ _ | refine z_t ?_ (by assumption)))); all_goals (simp <;> omega))
 have hxa : Ext w4 wa := by rw [hwa]; exact (Ext.refl _).alloc _
 have BB := hide (show Blk wa w4.heap.size 133 #[.int .i64 W, .int .i64 H, .slice sa n sc, .int .i64 W, .int .i64 H, .int .i64 s, .map (some mb), .slice none 0 0] by rw [hwa]; exact Blk.new_ rfl)
 have OA := hide ((O4.out.ext hxa).lower (base' := w.heap.size) (by simp))
 have MA := hide (M4.out.ext hxa)
 have XA := hide (XW4.trans hxa)
 have hmb2 : w.heap.size ≤ mb := Nat.le_trans (show w.heap.size ≤ w3.heap.size from (show Ext w w3 from (by (with_reducible (repeat' (first | exact z_r _ | assumption | refine z_d ?_ | refine z_n ?_ _ | refine z_a ?_ _ | refine z_s ?_ ?_ _ | refine z_t ?_ (by assumption)))); all_goals (simp <;> omega))).size) hmb
 have hmb3 := M4.out.lt
 have hz4 := XW4.size
 have hz4a : w4.heap.size < wa.heap.size := BB.out.lt
 rw [← hwa]
 obtain ⟨bb, hbb⟩ : ∃ z, w4.heap.size = z := ⟨_, rfl⟩
 rw [hbb] at BB hmb3 hz4 hz4a ⊢
 have BA := hide (B.out.ext XA.out)
 clear hHeld hwa hxa XW4 O4 M4 O3 hmb x3 x4 hbb b0 b1 b2 b3 b4 b5 b6 b7 bz
 have b7 := BA.out.at 7 rfl
 have bz := BA.out.lt
 go_wp2_with fail
 clear b7 bz
 go_loopw [29] (fun iv wr => ∃ k : Nat, k ≤ N ∧ iv = .int .i64 (k : Int) ∧ Touch (fun j => j = bb) wa wr ∧ ∃ (tv : Value) (ts : List (Sl × Sl)) (R2 : Nat → Prop), Blk wr bb 133 #[.int .i64 W, .int .i64 H, .slice sa n sc, .int .i64 W, .int .i64 H, .int .i64 s, .map (some mb), tv] ∧ Own tabE wr wa.heap.size 74 tv ts ∧ TabsR R2 wr ts (T.take k) ∧ (∀ q, R2 q → wa.heap.size ≤ q ∧ q < wr.heap.size) ∧ ∀ q, tv.ownBlock = some q → ¬ R2 q) (fun iv _ => N - (intOf iv).toNat)
 case atStart => exact ⟨0, Nat.zero_le _, rfl, Touch.refl _ _, _, [], fun _ => False, BB.out, Own.nil _ _ _ _, ⟨rfl, fun i x y h => by simp at h⟩, (fun q h => h.elim), fun q h => by cases h⟩
 case round =>
  obtain ⟨k, hk, rfl, ht, tv, ts, R2, hb, hot, htr, hr2, hor⟩ := hrel
  have TT := hide ht
  have BR := hide hb
  have OT := hide hot
  have TR := hide htr
  have R2B := hide hr2
  have R2O := hide hor
  have XR := hide (XA.out.of_below (Touch.to_below (B := w.heap.size) ht XA.out.size (fun k e => by omega)) (Nat.le_refl _))
  have zr := ht.size
  clear ht hb hot htr hr2 hor
  by_cases hlt : k < N
  ·obtain ⟨t, htk⟩ : ∃ t, T[k]? = some t := ⟨_, List.getElem?_eq_getElem (by rw [HN.out]; exact hlt)⟩
   obtain ⟨a1, n1, b1, m1, d0, d1, ra1, rb1⟩ := (HTA.out.ext XR.out).at htk
   obtain ⟨t1, t2, t3⟩ := HTS.out t (List.mem_of_getElem? htk)
   have HTK := hide (show T.take (k + 1) = T.take k ++ [t] by rw [List.take_add_one, htk]; rfl)
   have HQ : Hid (∀ w', Ext wr w' → Calls Tryz.prog 75 #[.agg #[.slice a1 t.1.length n1, .slice b1 t.2.length m1]] w' (RetTab w' t)) := hide (fun w' x => table_any (w := w') n1 m1 (ra1.ext x) (by omega) (rb1.ext x) (by omega) (fun r hr => by have := t3 r hr; omega))
   obtain ⟨u, hu⟩ : ∃ z, t.1.length = z := ⟨_, rfl⟩
   obtain ⟨v, hv⟩ : ∃ z, t.2.length = z := ⟨_, rfl⟩
   have HU := hide hu
   have HV := hide hv
   rw [hu, hv] at HQ
   rw [hu] at d0
   rw [hv] at d1
   have z0 := World.block_lt_of_cell? wr _ d0
   simp only at z0
   have HTL := hide (show ts.length = k by rw [TR.out.1, List.length_take, HN.out]; omega)
   have jk : (k : Int) < (N : Int) := by omega
   clear htk ra1 rb1 t1 t2 t3 hu hv
   go_wp2_with fail
   obtain ⟨wq, hwq⟩ : ∃ z, z = wr.alloc (.cells #[.slice a1 u n1, .slice b1 v m1] 74) := ⟨_, rfl⟩
   have xq : Ext wr wq := by rw [hwq]; exact (Ext.refl _).alloc _
   have BT := hide (show Blk wq wr.heap.size 74 #[.slice a1 u n1, .slice b1 v m1] by rw [hwq]; exact Blk.new_ rfl)
   have BRQ := hide (BR.out.ext xq)
   have OTQ := hide (OT.out.ext xq)
   have TRQ := hide (TR.out.touch (Touch.of_ext (S := fun _ => False) xq) (fun _ _ x => x))
   have XQ := hide xq
   have zq := xq.size
   have zrq : wr.heap.size < wq.heap.size := BT.out.lt
   rw [← hwq]
   clear hwq xq d0 d1
   have S0 := hide (show CellsAt [(⟨bb, 7, none⟩, tv), (⟨wr.heap.size, 0, none⟩, .slice a1 u n1), (⟨wr.heap.size, 1, none⟩, .slice b1 v m1)] wq from ⟨BRQ.out.at 7 rfl, BT.out.at 0 rfl, BT.out.at 1 rfl, trivial⟩)
   have zbb : bb < wr.heap.size := BR.out.lt
   refine seqR_start (S := (CellsAt [(⟨bb, 7, none⟩, tv), (⟨wr.heap.size, 0, none⟩, .slice a1 u n1), (⟨wr.heap.size, 1, none⟩, .slice b1 v m1)])) 11 [(0, true), (1, true), (2, true), (3, true), (4, true), (5, true), (6, false), (7, false), (8, false), (9, true), (10, true), (11, false)] (by kernel_rfl) (by kernel_rfl) (by kernel_rfl) (by decide) (fun _ _ d _ _ h => by cases d <;> exact h) (CellsAt.ext ((Ext.refl _).drew) S0.out) (fun hHeld => ?_)
   iterate 6 (apply SeqR.free; (· (simp only [z_0, z_1, z_2]; rfl)); (· first | exact Or.inr ⟨by rfl, rfl⟩ | (refine Or.inl ⟨by rfl, ?_⟩; intro w hSw; (try dsimp only at hSw); simp only [CellsAt] at hSw; go_simp; try with_reducible rfl)); try simp only [Act.put, z_3, z_4, z_5])
   (apply SeqR.step; (· (simp only [z_0, z_1, z_2]; rfl)); intro K hK; go_simp; refine (HQ.out _ (XQ.out.trans (by (with_reducible (repeat' (first | exact z_r _ | assumption | refine z_d ?_ | refine z_n ?_ _ | refine z_a ?_ _ | refine z_s ?_ ?_ _ | refine z_t ?_ (by assumption)))); all_goals (simp <;> omega)))).mono ?_; rintro e w6 ⟨v1, v2, rfl, x6, o6, r6⟩; obtain ⟨a81, c81, rfl⟩ := o6.slice; obtain ⟨a82, c82, rfl, _⟩ := rowsU_of r6; rw [HU.out] at o6 ⊢; rw [HV.out] at r6 ⊢; have hx6 : Ext wq w6 := (by (with_reducible (repeat' (first | exact z_r _ | assumption | refine z_d ?_ | refine z_n ?_ _ | refine z_a ?_ _ | refine z_s ?_ ?_ _ | refine z_t ?_ (by assumption)))); all_goals (simp <;> omega)); have X6 := hide hx6; have S6 := hide (CellsAt.ext hx6 S0.out); have O6 := hide (OTQ.out.ext hx6); have B6 := hide (BRQ.out.ext hx6); have T6 := hide ((TRQ.out.touch (Touch.of_ext (S := fun _ => False) hx6) (fun _ _ x => x)).mono (R' := fun q => R2 q ∨ (wq.heap.size ≤ q ∧ q < w6.heap.size)) (fun q hq => .inl hq)); have N6 := hide (show TabR (fun q => R2 q ∨ (wq.heap.size ≤ q ∧ q < w6.heap.size)) w6 ((a81, u, c81), (a82, v, c82)) t from ⟨⟨o6.lower (Nat.zero_le _), fun q hq => .inr (by have := own_lt o6 hq; simpa using this)⟩, RowsR.of_at r6 (fun q h1 h2 => .inr ⟨by simpa using h1, h2⟩)⟩); have z6 := hx6.size; clear o6 r6 x6 hx6; go_wp2_with fail; refine hK.out _ _ (fun _ => (S6.out)) (fun hHeld => ?_); replace hHeld := hHeld (by decide); clear hK K; try simp only [Act.put, z_3, z_4, z_5])
   (apply SeqR.step; (· (simp only [z_0, z_1, z_2]; rfl)); intro K hK; go_simp; refine hK.out _ _ (fun _ => (CellsAt.ext (by (with_reducible (repeat' (first | exact z_r _ | assumption | refine z_d ?_ | refine z_n ?_ _ | refine z_a ?_ _ | refine z_s ?_ ?_ _ | refine z_t ?_ (by assumption)))); all_goals (simp <;> omega)) S6.out)) (fun hHeld => ?_); replace hHeld := hHeld (by decide); clear hK K; try simp only [Act.put, z_3, z_4, z_5])
   (apply SeqR.step; (· (simp only [z_0, z_1, z_2]; rfl)); intro K hK; refine step_app_at tabE T_tabs (by rfl) _ _ (by rfl) wa.heap.size w6 tv ts (by rfl) O6.out ((a81, u, c81), (a82, v, c82)) _ _ (by rfl) _ (by rfl) (by rfl) (by rw [HTL.out]; omega) (by rw [HTL.out]; omega) (by omega) ?_; intro g9 c9 w9 o9 t9 l9; have O9 := hide o9; have L9 := hide l9; have hRt : ∀ q, (R2 q ∨ (wq.heap.size ≤ q ∧ q < w6.heap.size)) → ¬ tv.ownBlock = some q := (fun q hq e => hq.elim (fun h => R2O.out q e h) (fun h => (by have := (own_lt OT.out e).2; omega))); have TS9 := hide ((T6.out.snoc N6.out).touch t9 hRt); have B9 := hide (B6.out.touch t9 (fun h => Blk.ne_own B6.out O6.out (by decide) h)); have S9 := hide (CellsAt.touch t9 (fun p hp h => (by have hl := (own_lt OT.out h); simp only [List.mem_cons, List.not_mem_nil, or_false] at hp; rcases hp with rfl | rfl | rfl <;> simp only at hl <;> omega)) S6.out); have T9 := hide ((TT.out.trans (Touch.of_ext (XQ.out.trans X6.out))).after t9 (fun k hk h => (by have hl := (own_lt O6.out h).1; omega))); have z9 := t9.size; have h7 := B9.out.at 7 rfl; have f7 := B9.out.frozen 7; clear o9 t9 l9; refine hK.out _ _ (fun _ => (S9.out)) (fun hHeld => ?_); replace hHeld := hHeld (by decide); clear hK K; try simp only [Act.put, z_3, z_4, z_5])
   iterate 2 (apply SeqR.free; (· (simp only [z_0, z_1, z_2]; rfl)); (· first | exact Or.inr ⟨by rfl, rfl⟩ | (refine Or.inl ⟨by rfl, ?_⟩; intro w hSw; (try dsimp only at hSw); simp only [CellsAt] at hSw; go_simp; try with_reducible rfl)); try simp only [Act.put, z_3, z_4, z_5])
   (apply SeqR.step; (· (simp only [z_0, z_1, z_2]; rfl)); intro K hK; go_simp; refine hK.out _ _ (fun h => absurd rfl h) (fun hHeld => ?_); clear hK K; try simp only [Act.put, z_3, z_4, z_5])
   refine SeqR.done ?_
   go_wp2_with fail
   have TB : Touch (fun j => j = bb) w9 (w9.setCell ⟨bb, 7, none⟩ (.slice (some ⟨g9, 0, none⟩) (ts.length + 1) c9)) := touch1 w9 bb 7 _
   have TBH := hide TB
   have zbs := TB.size
   have hgb : g9 ≠ bb := fun e => Blk.ne_own B9.out O9.out (by decide) (by rw [e]; rfl)
   have hgw : wa.heap.size ≤ g9 ∧ g9 < w9.heap.size := own_lt O9.out rfl
   clear TB
   go_roundw
   case rel =>
    refine ⟨k + 1, by omega, by go_num, T9.out.trans TBH.out, _, ts ++ [((a81, u, c81), (a82, v, c82))], fun q => R2 q ∨ (wq.heap.size ≤ q ∧ q < w6.heap.size), B9.out.set_ 7 _, Own.touch O9.out TBH.out (fun q hq e => by have := own_blk hq; omega), ?_, fun q hq => ?_, fun q hq hR => ?_⟩
    ·rw [HTK.out]
     exact TS9.out.touch TBH.out (fun q hq e => hq.elim (fun h => by have := (R2B.out q h).1; omega) (fun h => by omega))
    ·rcases hq with h | h
     ·have := R2B.out q h; omega
     ·omega
    ·have e := own_blk hq
     subst e
     rcases L9.out with h | h
     ·rcases hR with h2 | h2
      ·exact R2O.out _ h h2
      ·have := (own_lt OT.out h).2; omega
     ·rcases hR with h2 | h2
      ·have := (R2B.out _ h2).2; omega
      ·omega
   case measure => simp [intOf]; omega
  ·obtain rfl : N = k := by omega
   have HTN : Hid (T.take N = T) := hide (List.take_of_length_le (by rw [HN.out]; exact Nat.le_refl _))
   rw [HTN.out] at TR
   have hN1 : 1 ≤ N := by have := HST.out.good.cnt; have := HC.out; omega
   have htl : ts.length = N := by rw [TR.out.1, HN.out]
   obtain ⟨g, c9, hg⟩ : ∃ g c, tv = .slice (some ⟨g, 0, none⟩) N c := by
    rcases OT.out.2 with ⟨_, h0⟩ | ⟨g, cap, cur, hv, _⟩
    ·omega
    ·exact ⟨g, cap, by rw [hv, htl]⟩
   subst hg
   have HOT := hide (own_lt OT.out (k := g) rfl)
   have OW : Own u16G wr w.heap.size 83 (.slice sa n sc) l := OA.out.touch TT.out (fun q hq e => by have h := BB.out.ne_own OA.out (by decide); rw [← e] at h; exact h hq)
   have MW : MapV wr mb f := MA.out.touch TT.out (by omega)
   have STN : Stand wr ⟨bb, mb, g, sa, sc, c9⟩ (fun q => R q ∨ R2 q ∨ (Value.slice sa n sc).ownBlock = some q) W H s l G T := by
    refine ⟨HST.out.good, ?_, ?_, fun q hq => ?_, ⟨f, MW, fun a b => ?_⟩, ⟨ts, ?_, TR.out.mono (fun q hq => .inr (.inl hq))⟩, HST.out.num, fun q hq => ?_, fun q hq hf => ?_⟩
    ·unfold worldCells
     rw [HN.out, HL.out]
     exact BR.out
    ·rw [HL.out]
     exact OW.lower (Nat.zero_le _)
    ·rw [HL.out] at hq
     exact .inr (.inr hq)
    ·refine (HF.out a b).imp id ?_
     rintro ⟨v, L, e1, e2, o, i⟩
     exact ⟨v, L, e1, e2, o.ext XR.out, fun q hq => .inl (i q hq)⟩
    ·rw [HN.out]
     exact OT.out.lower (Nat.zero_le _)
    ·have zz := XR.out.size
     rcases hq with h | h | h
     ·have := HST.out.lt q h; omega
     ·exact (R2B.out q h).2
     ·exact (own_lt OW h).2
    ·rcases hq with h | h | h
     ·have := HST.out.lt q h
      have := HOT.out.1
      rcases hf with h2 | h2 | h2 <;> simp only at h2 <;> omega
     ·have h3 := R2B.out q h
      rcases hf with h2 | h2 | h2 <;> simp only at h2
      ·omega
      ·omega
      ·subst h2; exact R2O.out _ rfl h
     ·rcases hf with h2 | h2 | h2 <;> simp only at h2 <;> subst h2
      ·exact BR.out.ne_own OW (by decide) h
      ·exact MW.not_own OW h
      ·exact own_ne_own OW OT.out (by decide) h rfl
   have HSN := hide STN
   have HLO := hide (fun q (hq : (Value.slice sa n sc).ownBlock = some q) => (own_lt OW hq).1)
   clear STN OW MW
   go_wp2_with fail
   go_ret
   refine ⟨_, _, ?_, XR.out, ⟨G, T, HSN.out, HFL.out⟩, fun k hk => ?_, fun k hk => ?_⟩
   ·rfl
   ·have h1 := HOT.out.1
    have h2 := XA.out.size
    rcases hk with h | h | h <;> simp only at h <;> omega
   ·rcases hk with h | h | h
    ·exact .inl h
    ·exact .inr (by have := (R2B.out k h).1; have := XA.out.size; omega)
    ·exact .inr (HLO.out k h)
end Go.Proofs.YtkioohhjjdlhiaaGreat
