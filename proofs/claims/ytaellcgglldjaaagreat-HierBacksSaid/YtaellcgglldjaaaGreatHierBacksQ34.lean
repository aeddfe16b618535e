/- Part of a proof: RedH RedJ. -/
import Derived.Test.YtaellcgglldjaaaGreatHierBacksQ33
import Derived.Test.YtaellcgglldjaaaGreatHierBacksQ19
set_option linter.all false
set_option linter.unusedVariables false
set_option linter.unusedSimpArgs false
namespace Go.Proofs.YtaellcgglldjaaaGreat
open Go.RowKit
theorem SeqT.namedM {ops : Array Oper} {Q : Exit → Act → World → Prop} {S : World → Prop} {r : Ord} {a : Act} {X : World} (h : ∀ w7, MapV w7 X.heap.size (fun _ _ => none) → Ext X w7 → w7.heap.size = X.heap.size + 1 → S w7 → SeqT Tryz.prog ops Q S r a w7) (hS : S (X.alloc (.map #[] 0))) : SeqT Tryz.prog ops Q S r a (X.alloc (.map #[] 0)) :=
 h _ (MapV.made X) ((Ext.refl _).alloc _) (by simp) hS
theorem SeqT.namedMD {ops : Array Oper} {Q : Exit → Act → World → Prop} {S : World → Prop} {r : Ord} {a : Act} {X : World} (h : ∀ w7, MapV w7 X.heap.size (fun _ _ => none) → Ext X w7 → w7.heap.size = X.heap.size + 1 → S w7 → SeqT Tryz.prog ops Q S r a w7) (hS : S (X.alloc (.map #[] 0)).drew) : SeqT Tryz.prog ops Q S r a (X.alloc (.map #[] 0)).drew :=
 h _ ((MapV.made X).ext (Ext.refl _).drew) (((Ext.refl _).alloc _).drew) (by simp) hS
theorem Stand.fresh {w : World} {b m tb sc base base' : Nat} {sa : Option Addr} {W H s : Int} {l : List Int} {N : Nat} (g : Good W H s l) (hN : (N : Int) = cnt W H s)
  (B : Blk w b 93 #[.int .i64 W, .int .i64 H, .slice sa l.length sc, .int .i64 W, .int .i64 H, .int .i64 s, .map (some m), .slice (some ⟨tb, 0, none⟩) N N])
  (oc : Own u16G w base 84 (.slice sa l.length sc) l) (mv : MapV w m (fun _ _ => none)) (ot : Own tabE w base' 166 (.slice (some ⟨tb, 0, none⟩) N N) (List.replicate N ((none, 0, 0), (none, 0, 0)))) :
  Stand w ⟨b, m, tb, sa, sc, N⟩ (fun k => (Value.slice sa l.length sc).ownBlock = some k) W H s l (fun _ _ => none) (List.replicate N ([], [])) where
 good := g
 blk := by rw [List.length_replicate]; exact B
 cost := oc.lower (Nat.zero_le _)
 costR := fun k hk => hk
 gates := ⟨_, mv, fun a b => .inl ⟨rfl, rfl⟩⟩
 tabs := ⟨_, by rw [List.length_replicate]; exact ot.lower (Nat.zero_le _), by simp, fun i a t ha ht => by
  rw [List.getElem?_replicate] at ha ht
  split at ha
  ·next hi =>
   rw [if_pos hi] at ht
   cases ha
   cases ht
   exact ⟨⟨Own.nil _ _ _ _, fun k hk => by cases hk⟩, [], ⟨Own.nil _ _ _ _, fun k hk => by cases hk⟩, rfl, fun i s r h => by simp at h⟩
  ·cases ha⟩
 num := by rw [List.length_replicate]; exact hN
 lt k hk := (own_lt oc hk).2
 apart k hk hf := by
  rcases hf with rfl | rfl | rfl
  ·exact B.ne_own oc (by decide) hk
  ·exact mv.not_own oc hk
  ·exact own_ne_own oc ot (by decide) hk rfl
theorem foot_ge {w : World} {p : Spot} {R : Nat → Prop} {W H s : Int} {l : List Int} {G : Int → Int → Option (List (Cell × Cell))} {T : List Tab} (_h : Stand w p R W H s l G T) {q : Nat} (h1 : q ≤ p.b) (h2 : q ≤ p.m) (h3 : q ≤ p.tb) : ∀ k, p.F k → q ≤ k := fun k hk => by
 rcases hk with rfl | rfl | rfl
 ·exact h1
 ·exact h2
 ·exact h3
theorem own_bool {w : World} {base : Nat} {v : Value} {l : List Bool} (h : Own boolE w base 4 v l) (hl : 0 < l.length) : ∃ g c, v = .slice (some ⟨g, 0, none⟩) l.length c := by
 rcases h.2 with ⟨_, h0⟩ | ⟨g, cap, cur, hv, _⟩
 ·omega
 ·exact ⟨g, cap, hv⟩
def newE (W H : Int) (n : Nat) (s : Int) : Int := if checkE W H n = 0 then (if rightB W H s = true then 0 else 10) else checkE W H n
def MadeWorld (w : World) (W H s : Int) (l : List Int) (e : Ending) (w' : World) : Prop :=
 ∃ p R, e = .returned (.tuple #[.pointer (some ⟨p.b, 0, none⟩), .int .i64 0]) ∧ WorldAt w' p R W H s l ∧ Ext w w' ∧ (∀ k, p.F k → w.heap.size ≤ k) ∧ ∀ k, R k → w.heap.size ≤ k
set_option maxRecDepth 100000 in
set_option maxHeartbeats 2000000 in
theorem rdNew_yes {w : World} {W H : Int} {a : Option Addr} {l : List Int} (c : Nat) {s : Int} (g : Good W H s l) (hr : Row16 w a l) (hs : (gatesA W H s l).length ≤ 50000) :
  Calls Tryz.prog 11 #[.agg #[.int .i64 W, .int .i64 H, .slice a l.length c], .int .i64 s] w (MadeWorld w W H s l) := by
 have ht := g.right
 have HG := hide g
 have HS := hide hs
 have HR := hide hr
 have H0 := hide g.ok
 have b0 := g.cnt
 obtain ⟨N, hN⟩ : ∃ N : Nat, (cnt W H s).toNat = N := ⟨_, rfl⟩
 have HN := hide (show cnt W H s = (N : Int) by omega)
 have hN1 : 1 ≤ N := by omega
 have hN2 : N ≤ 65536 := by omega
 have HO := hide (fun (w' : World) (hx : Ext w w') => rdOwn_any (w := w') W H c (by have := g.len; omega) (hr.ext hx))
 obtain ⟨n, hn⟩ : ∃ z, l.length = z := ⟨_, rfl⟩
 have HL := hide hn
 rw [hn] at H0 HO ⊢
 have hmm := @run_makeMap Tryz.prog
 clear g hs hr b0 hN hn
 go_enter Tryz.func11, Tryz.ntmps11
 go_wp2_with (first
  | (go_at_call 34; refine (gCheck_any W H a n c _).mono ?_; rintro e w3 ⟨rfl, hb3⟩; obtain ⟨hc3, hf3⟩ := hb3.cells; have hz3 := hb3.size; (repeat (first | rw [World.size_alloc] at hz3 | rw [World.size_drew] at hz3)); have z3_0 : w.heap.size < w3.heap.size := (by omega); have X3 := hide (show Ext w w3 from z_x); rw [H0.out])
  | (go_at_call 35; refine (new_yes W H s _ ht).mono ?_; rintro e w4 ⟨rfl, hb4⟩; have X4 := hide (X3.out.trans hb4); obtain ⟨hc4, hf4⟩ := hb4.cells; have hz4 := hb4.size; (repeat (first | rw [World.size_alloc] at hz4 | rw [World.size_drew] at hz4)); have z4_0 : w.heap.size < w4.heap.size := (by omega)))
 have BF4 : Hid (Blk w4 (w.heap.size) 26 #[.int .i64 W, .int .i64 H, .slice a n c]) := hide (by refine Blk.ext ?_ (Ext.trans hb3 hb4); (repeat' (first | exact Blk.new_ (by simp) | refine Blk.drew ?_ | refine Blk.over ?_)))
 obtain ⟨wb, hwb⟩ : ∃ wb, w4.alloc (.cells #[.int .i64 W, .int .i64 H, .int .i64 s] 53) = wb := ⟨_, rfl⟩
 have BP := hide (show Blk wb w4.heap.size 53 #[.int .i64 W, .int .i64 H, .int .i64 s] by rw [← hwb]; exact Blk.new_ rfl)
 have XB := hide (show Ext w wb by rw [← hwb]; exact X4.out.trans ((Ext.refl _).alloc _))
 have BF := hide (show Blk wb w.heap.size 26 #[.int .i64 W, .int .i64 H, .slice a n c] by rw [← hwb]; exact Blk.over BF4.out)
 obtain ⟨pb, hpb⟩ : ∃ pb, w4.heap.size = pb := ⟨_, rfl⟩
 rw [hwb]
 rw [hpb] at BP ⊢
 have hzb := XB.out.size
 clear hwb hpb BF4 X3 X4 hb3 hb4 hc3 hf3 hz3 hc4 hf4 hz4 z3_0 z4_0
 have f0 := BF.out.at 0 rfl; have f1 := BF.out.at 1 rfl; have f2 := BF.out.at 2 rfl; have fz := BF.out.lt
 have q0 := BP.out.at 0 rfl; have q1 := BP.out.at 1 rfl; have q2 := BP.out.at 2 rfl; have qz := BP.out.lt
 have T0 := hide True.intro
 refine seqT_start (S := (fun W => (∀ b o, b < wb.heap.size → W.cell? ⟨b, o, none⟩ = wb.cell? ⟨b, o, none⟩) ∧ Ext wb W)) (.take 0 (.take 2 (.take 4 (.step 1 (.step 3 (.step 5 (.step 6 (.take 7 (.step 8 (.take 9 .done) .shut)) .shut) .shut) (.step 5 (.step 3 (.step 6 (.take 7 (.step 8 (.take 9 .done) .shut)) .shut) (.step 6 (.step 3 (.take 7 (.step 8 (.take 9 .done) .shut)) .shut) .shut)) .shut)) (.step 3 (.step 1 (.step 5 (.step 6 (.take 7 (.step 8 (.take 9 .done) .shut)) .shut) .shut) .shut) .shut))))) (by kernel_rfl) (by kernel_rfl) (by kernel_rfl) (by decide) (fun _ _ d _ _ h => by cases d <;> exact h) (by first | with_reducible exact pr_start _ | exact pr_of z_x) (fun hHeld => ?_)
 iterate 3 (apply SeqT.free; (· (simp only [z_0, z_1, z_2]; rfl)); (· first | exact Or.inr ⟨by rfl, rfl⟩ | (refine Or.inl ⟨by rfl, ?_⟩; intro w hSw; (try dsimp only at hSw); go_simp; try with_reducible rfl)); try simp only [Act.put, z_3, z_4, z_5])
 (apply SeqT.step; (· (simp only [z_0, z_1, z_2]; rfl)))
 (intro K hK; go_simp; refine (HO.out _ (XB.out.trans z_x)).mono ?_; rintro e w5 ⟨sa, sc, rfl, x5, o5⟩; rw [HL.out] at o5 ⊢; (try replace HM := hide (HM.out.ext x5)); have OC := hide (o5.lower (base' := w.heap.size) (Nat.le_trans hzb (show Ext wb _ from z_x).size)); clear o5; go_wp2_with fail; refine hK.out _ _ (pr_of z_x) (fun hHeld => ?_); clear hK K; (try simp only [Act.put, z_3, z_4, z_5]))
 (apply SeqT.step; (· (simp only [z_0, z_1, z_2]; rfl)))
 (intro K hK; go_simp; refine hK.out _ _ (pr_of z_x) (fun hHeld => ?_); clear hK K; (try simp only [Act.put, z_3, z_4, z_5]); (first | refine SeqT.namedM ?_ (by assumption) | refine SeqT.namedMD ?_ (by assumption)); intro w3 hm hx3 hz3 hS3; have HM := hide hm; (try replace OC := hide (OC.out.ext hx3)); (try replace OT := hide (OT.out.ext hx3)); clear hm hz3)
 (apply SeqT.last; (· (simp only [z_0, z_1, z_2]; rfl)))
 (intro K hK; go_simp; refine (count_yes W H s _ ht).mono ?_; rintro e w6 ⟨rfl, x6⟩; rw [HN.out]; (try replace HM := hide (HM.out.ext x6)); (try replace OC := hide (OC.out.ext x6)); go_wp2_with fail; refine hK.out _ _ (pr_of z_x) (fun hHeld => ?_); clear hK K; (try simp only [Act.put, z_3, z_4, z_5]))
 (apply SeqT.last; (· (simp only [z_0, z_1, z_2]; rfl)))
 (intro K hK; refine step_make_tabs (by rfl) _ _ (by rfl) w.heap.size N (by rfl) (by rfl) (by omega) (Nat.le_trans hzb (show Ext wb _ from z_x).size) ?_; intro w7 o7 x7; (try replace HM := hide (HM.out.ext x7)); (try replace OC := hide (OC.out.ext x7)); have OT := hide o7; clear o7; refine hK.out _ _ (pr_of z_x) (fun hHeld => ?_); clear hK K; (try simp only [Act.put, z_3, z_4, z_5]))
 iterate 1 (apply SeqT.free; (· (simp only [z_0, z_1, z_2]; rfl)); (· first | exact Or.inr ⟨by rfl, rfl⟩ | (refine Or.inl ⟨by rfl, ?_⟩; intro w hSw; (try dsimp only at hSw); go_simp; try with_reducible rfl)); try simp only [Act.put, z_3, z_4, z_5])
 (apply SeqT.last; (· (simp only [z_0, z_1, z_2]; rfl)))
 (intro K hK; go_simp; refine hK.out _ _ (pr_of z_x) (fun hHeld => ?_); clear hK K; (try simp only [Act.put, z_3, z_4, z_5]); (first | refine SeqT.named ?_ (by assumption) | refine SeqT.namedD ?_ (by assumption)); intro w8 dt hx8 hz8 hS8; have DT := hide dt; clear dt hz8; replace HM := hide (HM.out.ext hx8); replace OC := hide (OC.out.ext hx8); replace OT := hide (OT.out.ext hx8); have X8 := hide (show Ext wb w8 from z_x); have P8 := hide (BP.out.ext X8.out); replace q0 := P8.out.at 0 rfl; replace q1 := P8.out.at 1 rfl; replace q2 := P8.out.at 2 rfl; replace qz := P8.out.lt)
 iterate 1 (apply SeqT.free; (· (simp only [z_0, z_1, z_2]; rfl)); (· first | exact Or.inr ⟨by rfl, rfl⟩ | (refine Or.inl ⟨by rfl, ?_⟩; intro w hSw; (try dsimp only at hSw); go_simp; try with_reducible rfl)); try simp only [Act.put, z_3, z_4, z_5])
 refine SeqT.fin ?_
 rotate_left
 (apply SeqT.last; (· (simp only [z_0, z_1, z_2]; rfl)))
 (intro K hK; go_simp; refine (count_yes W H s _ ht).mono ?_; rintro e w6 ⟨rfl, x6⟩; rw [HN.out]; (try replace HM := hide (HM.out.ext x6)); (try replace OC := hide (OC.out.ext x6)); go_wp2_with fail; refine hK.out _ _ (pr_of z_x) (fun hHeld => ?_); clear hK K; (try simp only [Act.put, z_3, z_4, z_5]))
 (apply SeqT.step; (· (simp only [z_0, z_1, z_2]; rfl)))
 (intro K hK; go_simp; refine hK.out _ _ (pr_of z_x) (fun hHeld => ?_); clear hK K; (try simp only [Act.put, z_3, z_4, z_5]); (first | refine SeqT.namedM ?_ (by assumption) | refine SeqT.namedMD ?_ (by assumption)); intro w3 hm hx3 hz3 hS3; have HM := hide hm; (try replace OC := hide (OC.out.ext hx3)); (try replace OT := hide (OT.out.ext hx3)); clear hm hz3)
 (apply SeqT.last; (· (simp only [z_0, z_1, z_2]; rfl)))
 (intro K hK; refine step_make_tabs (by rfl) _ _ (by rfl) w.heap.size N (by rfl) (by rfl) (by omega) (Nat.le_trans hzb (show Ext wb _ from z_x).size) ?_; intro w7 o7 x7; (try replace HM := hide (HM.out.ext x7)); (try replace OC := hide (OC.out.ext x7)); have OT := hide o7; clear o7; refine hK.out _ _ (pr_of z_x) (fun hHeld => ?_); clear hK K; (try simp only [Act.put, z_3, z_4, z_5]))
 iterate 1 (apply SeqT.free; (· (simp only [z_0, z_1, z_2]; rfl)); (· first | exact Or.inr ⟨by rfl, rfl⟩ | (refine Or.inl ⟨by rfl, ?_⟩; intro w hSw; (try dsimp only at hSw); go_simp; try with_reducible rfl)); try simp only [Act.put, z_3, z_4, z_5])
 (apply SeqT.last; (· (simp only [z_0, z_1, z_2]; rfl)))
 (intro K hK; go_simp; refine hK.out _ _ (pr_of z_x) (fun hHeld => ?_); clear hK K; (try simp only [Act.put, z_3, z_4, z_5]); (first | refine SeqT.named ?_ (by assumption) | refine SeqT.namedD ?_ (by assumption)); intro w8 dt hx8 hz8 hS8; have DT := hide dt; clear dt hz8; replace HM := hide (HM.out.ext hx8); replace OC := hide (OC.out.ext hx8); replace OT := hide (OT.out.ext hx8); have X8 := hide (show Ext wb w8 from z_x); have P8 := hide (BP.out.ext X8.out); replace q0 := P8.out.at 0 rfl; replace q1 := P8.out.at 1 rfl; replace q2 := P8.out.at 2 rfl; replace qz := P8.out.lt)
 iterate 1 (apply SeqT.free; (· (simp only [z_0, z_1, z_2]; rfl)); (· first | exact Or.inr ⟨by rfl, rfl⟩ | (refine Or.inl ⟨by rfl, ?_⟩; intro w hSw; (try dsimp only at hSw); go_simp; try with_reducible rfl)); try simp only [Act.put, z_3, z_4, z_5])
 refine SeqT.fin ?_
 rotate_left
 (apply SeqT.last; (· (simp only [z_0, z_1, z_2]; rfl)))
 (intro K hK; refine step_make_tabs (by rfl) _ _ (by rfl) w.heap.size N (by rfl) (by rfl) (by omega) (Nat.le_trans hzb (show Ext wb _ from z_x).size) ?_; intro w7 o7 x7; (try replace HM := hide (HM.out.ext x7)); (try replace OC := hide (OC.out.ext x7)); have OT := hide o7; clear o7; refine hK.out _ _ (pr_of z_x) (fun hHeld => ?_); clear hK K; (try simp only [Act.put, z_3, z_4, z_5]))
 (apply SeqT.last; (· (simp only [z_0, z_1, z_2]; rfl)))
 (intro K hK; go_simp; refine hK.out _ _ (pr_of z_x) (fun hHeld => ?_); clear hK K; (try simp only [Act.put, z_3, z_4, z_5]); (first | refine SeqT.namedM ?_ (by assumption) | refine SeqT.namedMD ?_ (by assumption)); intro w3 hm hx3 hz3 hS3; have HM := hide hm; (try replace OC := hide (OC.out.ext hx3)); (try replace OT := hide (OT.out.ext hx3)); clear hm hz3)
 iterate 1 (apply SeqT.free; (· (simp only [z_0, z_1, z_2]; rfl)); (· first | exact Or.inr ⟨by rfl, rfl⟩ | (refine Or.inl ⟨by rfl, ?_⟩; intro w hSw; (try dsimp only at hSw); go_simp; try with_reducible rfl)); try simp only [Act.put, z_3, z_4, z_5])
 (apply SeqT.last; (· (simp only [z_0, z_1, z_2]; rfl)))
 (intro K hK; go_simp; refine hK.out _ _ (pr_of z_x) (fun hHeld => ?_); clear hK K; (try simp only [Act.put, z_3, z_4, z_5]); (first | refine SeqT.named ?_ (by assumption) | refine SeqT.namedD ?_ (by assumption)); intro w8 dt hx8 hz8 hS8; have DT := hide dt; clear dt hz8; replace HM := hide (HM.out.ext hx8); replace OC := hide (OC.out.ext hx8); replace OT := hide (OT.out.ext hx8); have X8 := hide (show Ext wb w8 from z_x); have P8 := hide (BP.out.ext X8.out); replace q0 := P8.out.at 0 rfl; replace q1 := P8.out.at 1 rfl; replace q2 := P8.out.at 2 rfl; replace qz := P8.out.lt)
 iterate 1 (apply SeqT.free; (· (simp only [z_0, z_1, z_2]; rfl)); (· first | exact Or.inr ⟨by rfl, rfl⟩ | (refine Or.inl ⟨by rfl, ?_⟩; intro w hSw; (try dsimp only at hSw); go_simp; try with_reducible rfl)); try simp only [Act.put, z_3, z_4, z_5])
 refine SeqT.fin ?_
 rotate_left
 (apply SeqT.last; (· (simp only [z_0, z_1, z_2]; rfl)))
 (intro K hK; go_simp; refine hK.out _ _ (pr_of z_x) (fun hHeld => ?_); clear hK K; (try simp only [Act.put, z_3, z_4, z_5]); (first | refine SeqT.namedM ?_ (by assumption) | refine SeqT.namedMD ?_ (by assumption)); intro w3 hm hx3 hz3 hS3; have HM := hide hm; (try replace OC := hide (OC.out.ext hx3)); (try replace OT := hide (OT.out.ext hx3)); clear hm hz3)
 (apply SeqT.last; (· (simp only [z_0, z_1, z_2]; rfl)))
 (intro K hK; go_simp; refine (HO.out _ (XB.out.trans z_x)).mono ?_; rintro e w5 ⟨sa, sc, rfl, x5, o5⟩; rw [HL.out] at o5 ⊢; (try replace HM := hide (HM.out.ext x5)); have OC := hide (o5.lower (base' := w.heap.size) (Nat.le_trans hzb (show Ext wb _ from z_x).size)); clear o5; go_wp2_with fail; refine hK.out _ _ (pr_of z_x) (fun hHeld => ?_); clear hK K; (try simp only [Act.put, z_3, z_4, z_5]))
 (apply SeqT.last; (· (simp only [z_0, z_1, z_2]; rfl)))
 (intro K hK; go_simp; refine (count_yes W H s _ ht).mono ?_; rintro e w6 ⟨rfl, x6⟩; rw [HN.out]; (try replace HM := hide (HM.out.ext x6)); (try replace OC := hide (OC.out.ext x6)); go_wp2_with fail; refine hK.out _ _ (pr_of z_x) (fun hHeld => ?_); clear hK K; (try simp only [Act.put, z_3, z_4, z_5]))
 (apply SeqT.last; (· (simp only [z_0, z_1, z_2]; rfl)))
 (intro K hK; refine step_make_tabs (by rfl) _ _ (by rfl) w.heap.size N (by rfl) (by rfl) (by omega) (Nat.le_trans hzb (show Ext wb _ from z_x).size) ?_; intro w7 o7 x7; (try replace HM := hide (HM.out.ext x7)); (try replace OC := hide (OC.out.ext x7)); have OT := hide o7; clear o7; refine hK.out _ _ (pr_of z_x) (fun hHeld => ?_); clear hK K; (try simp only [Act.put, z_3, z_4, z_5]))
 iterate 1 (apply SeqT.free; (· (simp only [z_0, z_1, z_2]; rfl)); (· first | exact Or.inr ⟨by rfl, rfl⟩ | (refine Or.inl ⟨by rfl, ?_⟩; intro w hSw; (try dsimp only at hSw); go_simp; try with_reducible rfl)); try simp only [Act.put, z_3, z_4, z_5])
 (apply SeqT.last; (· (simp only [z_0, z_1, z_2]; rfl)))
 (intro K hK; go_simp; refine hK.out _ _ (pr_of z_x) (fun hHeld => ?_); clear hK K; (try simp only [Act.put, z_3, z_4, z_5]); (first | refine SeqT.named ?_ (by assumption) | refine SeqT.namedD ?_ (by assumption)); intro w8 dt hx8 hz8 hS8; have DT := hide dt; clear dt hz8; replace HM := hide (HM.out.ext hx8); replace OC := hide (OC.out.ext hx8); replace OT := hide (OT.out.ext hx8); have X8 := hide (show Ext wb w8 from z_x); have P8 := hide (BP.out.ext X8.out); replace q0 := P8.out.at 0 rfl; replace q1 := P8.out.at 1 rfl; replace q2 := P8.out.at 2 rfl; replace qz := P8.out.lt)
 iterate 1 (apply SeqT.free; (· (simp only [z_0, z_1, z_2]; rfl)); (· first | exact Or.inr ⟨by rfl, rfl⟩ | (refine Or.inl ⟨by rfl, ?_⟩; intro w hSw; (try dsimp only at hSw); go_simp; try with_reducible rfl)); try simp only [Act.put, z_3, z_4, z_5])
 refine SeqT.fin ?_
 all_goals
  have ST8 := hide (Stand.fresh (w := w8) HG.out HN.out.symm (by rw [HL.out]; exact DT.out) (by rw [HL.out]; exact OC.out) HM.out OT.out)
  have XW := hide (XB.out.trans X8.out)
  have s3 := hx3.size
  have s5 := x5.size
  have s6 := x6.size
  have s7 := x7.size
  have s8 := hx8.size
  (try simp only [World.size_drew] at s3 s5 s6 s7 s8)
  have HOC := hide (fun k (hk : (Value.slice sa l.length sc).ownBlock = some k) => (own_lt OC.out (by rw [HL.out] at hk; exact hk)).1)
  clear hHeld X8 DT OC HM OT
  (try go_wp2_with fail)
  refine (count_yes W H s _ ht).mono ?_
  rintro e w9 ⟨rfl, x9⟩
  rw [HN.out]
  have c9 := (x9.cell (p := ⟨w8.heap.size, 0, none⟩) (by simp)).trans ((Blk.new w8 4 #[.bool true]).at 0 rfl)
  have z9 : w8.heap.size < w9.heap.size := by have := x9.size; simp at this; omega
  have X89 := hide (show Ext w8 w9 from z_x)
  clear x9 q0 q1 q2 qz P8
  go_wp2_with fail
  refine (repeatB_one w8.heap.size true N hN1 (by omega) z9 c9).mono ?_
  rintro e w10 ⟨v10, rfl, x10, o10⟩
  obtain ⟨g10, c10, rfl⟩ := own_bool o10 (by simp; omega)
  rw [List.length_replicate]
  rw [List.length_replicate] at o10
  have X810 := hide (X89.out.trans x10)
  have ST10 := hide (ST8.out.ext X810.out)
  have z10 := x10.size
  have g10z := own_lt o10 (k := g10) rfl
  have HB := build_any ST10.out (tg := g10) (tc := c10) (N := N) (tu := List.replicate N true) (by simp) (by simp) (o10.lower (Nat.zero_le _)) (fun hf => by have := ST8.out.foot hf; omega) (fun a b hn => .inl (by
   have h1 := hn.1
   have h2 := hn.2.1
   have h3 := hn.2.2.1
   rw [HN.out] at h2
   rw [List.getD_eq_getElem?_getD, List.getElem?_replicate, if_pos (by omega)]
   rfl)) HS.out
  have HB := hide HB
  clear o10 x10 c9
  go_wp2_with fail
  refine (HB.out).mono ?_
  rintro e w11 ⟨v, R', G', T', rfl, ho, hst, hgf, htt, tt, hrr⟩
  obtain ⟨va, vc, rfl⟩ := ho.slice
  have LF := hide (foot_ge ST8.out (q := w.heap.size) (by simp only; omega) (by simp only; omega) (by simp only; omega))
  have XX := hide ((XW.out.trans X810.out).of_below (tt.to_below (Nat.le_trans XW.out.size X810.out.size) LF.out) (Nat.le_refl _))
  have HST := hide hst
  have HGF := hide hgf
  have HTT := hide htt
  have HRR := hide hrr
  clear ho hst hgf htt tt hrr HB
  go_wp2_with fail
  go_ret2
  refine ⟨_, R', ?_, ⟨G', T', HST.out, HGF.out, fun i hi => ?_⟩, XX.out, LF.out, fun k hk => (HRR.out k hk).elim (fun h => HOC.out k h) (fun h => Nat.le_trans (Nat.le_trans XW.out.size X810.out.size) h)⟩
  ·rfl
  ·have hi' : i < N := by have := HST.out.num; have := HN.out; omega
   have h := HTT.out i (by rw [List.length_replicate]; exact hi')
   rw [h]
   unfold newT staleB
   rw [List.getD_eq_getElem?_getD, List.getElem?_replicate, if_pos hi']
   rfl
end Go.Proofs.YtaellcgglldjaaaGreat

namespace Go.Proofs.YtaellcgglldjaaaGreat
open Go.RowKit
theorem own_blk {g q n c : Nat} (h : (Value.slice (some ⟨g, 0, none⟩) n c).ownBlock = some q) : g = q := by simpa [Value.ownBlock] using h
def TabsAt (w : World) (g N c : Nat) (T : List Tab) : Prop := ∃ (R : Nat → Prop) (ts : List (Sl × Sl)), Own tabE w 0 166 (.slice (some ⟨g, 0, none⟩) N c) ts ∧ TabsR R w ts T
theorem TabsAt.ext {w w' : World} {g N c : Nat} {T : List Tab} (h : TabsAt w g N c T) (x : Ext w w') : TabsAt w' g N c T := by
 obtain ⟨R, ts, h1, h2⟩ := h
 exact ⟨R, ts, h1.ext x, h2.touch (Touch.of_ext (S := fun _ => False) x) (fun _ _ x => x)⟩
theorem TabsAt.at {w : World} {g N c k : Nat} {T : List Tab} {t : Tab} (h : TabsAt w g N c T) (ht : T[k]? = some t) :
  ∃ a n b m, w.cell? ⟨g, k * 2, none⟩ = some (.slice a t.1.length n) ∧ w.cell? ⟨g, k * 2 + 1, none⟩ = some (.slice b t.2.length m) ∧ RowC w a t.1 ∧ RowsU w b t.2 := by
 obtain ⟨R, ts, h1, h2, h3⟩ := h
 obtain ⟨q, hq⟩ : ∃ q, ts[k]? = some q := ⟨_, List.getElem?_eq_getElem (by rw [h2]; exact (List.getElem?_eq_some_iff.1 ht).1)⟩
 have CA := own_tab_at h1 hq
 obtain ⟨⟨o, _⟩, r⟩ := h3 k q t hq ht
 obtain ⟨⟨q1, q2, q3⟩, ⟨q4, q5, q6⟩⟩ := q
 simp only [slV] at CA o r
 obtain ⟨e1, rc⟩ := Reads.rowC o.reads
 have ra := r.at0
 obtain ⟨_, _, e2, _⟩ := rowsU_of ra
 have ru := ra.u
 have e3 : q5 = t.2.length := by injection e2
 subst e1 e3
 exact ⟨q1, q3, q4, q6, CA.1, CA.2, rc, ru⟩
theorem TabsR.snoc {R : Nat → Prop} {w : World} {ts : List (Sl × Sl)} {T : List Tab} {s : Sl × Sl} {t : Tab} (h : TabsR R w ts T) (hs : TabR R w s t) : TabsR R w (ts ++ [s]) (T ++ [t]) := by
 refine ⟨by simp [h.1], fun i x y hx hy => ?_⟩
 by_cases hi : i < ts.length
 ·rw [List.getElem?_append_left hi] at hx
  rw [List.getElem?_append_left (by rw [← h.1]; exact hi)] at hy
  exact h.2 i x y hx hy
 ·rw [List.getElem?_append_right (by omega)] at hx
  rw [List.getElem?_append_right (by rw [← h.1]; omega)] at hy
  have h0 : i - ts.length = 0 := by
   have := (List.getElem?_eq_some_iff.1 hx).1
   simp at this
   omega
  rw [h0] at hx
  rw [← h.1, h0] at hy
  simp at hx hy
  subst hx hy
  exact hs
end Go.Proofs.YtaellcgglldjaaaGreat

