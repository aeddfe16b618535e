/- Part of a proof: HierD HierQ. -/
import Derived.Test.YtaellcgglldjaaaGreatHierBudgetQ20
import Derived.Test.YtaellcgglldjaaaGreatHierBudgetQ10
import Derived.Test.YtaellcgglldjaaaGreatHierBudgetQ18
set_option linter.all false
set_option linter.unusedVariables false
set_option linter.unusedSimpArgs false
namespace Go.Proofs.YtaellcgglldjaaaGreat
open Go.RowKit
def legV (a b : Cell) (x : Int) : Value := .agg #[.int .i64 a.1, .int .i64 a.2, .int .i64 b.1, .int .i64 b.2, .int .u64 x]
def thrV (W : Int) (l : List Int) (g : Cell × Cell) (a : Cell) : Value := if g.1 = a then legV a g.2 (costI l W g.2) else if g.2 = a then legV a g.1 (costI l W g.1) else legV (0, 0) (0, 0) 0
section
variable {w : World} {lb : Nat} {p : Spot} {R : Nat → Prop} {W H s : Int} {l : List Int} {fa : Option Addr} {fc : Nat} {ga : Option Addr} {gc : Nat} {f t : Cell}
set_option maxRecDepth 100000 in
set_option maxHeartbeats 1000000 in
theorem through_any (h : HLand w lb p R W H s l fa fc ga gc f t) (g : Cell × Cell) (a : Cell) (h1 : inB W H g.1.1 g.1.2 = true) (h2 : inB W H g.2.1 g.2.2 = true) :
  Calls Tryz.prog 101 #[.pointer (some ⟨lb, 0, none⟩), .agg #[.int .i64 g.1.1, .int .i64 g.1.2, .int .i64 g.2.1, .int .i64 g.2.2], .agg #[.int .i64 a.1, .int .i64 a.2]] w fun e w' => e = .returned (thrV W l g a) ∧ Ext w w' := by
 have HC1 := hide (fun (w' : World) (x : Ext w w') => cost_any (h.ext x) h1)
 have HC2 := hide (fun (w' : World) (x : Ext w w') => cost_any (h.ext x) h2)
 clear h h1 h2
 obtain ⟨⟨ux, uy⟩, ⟨vx, vy⟩⟩ := g
 obtain ⟨ax, ay⟩ := a
 simp only at HC1 HC2
 have hE1 := fun (w : World) => eq_cell (ax, ay) (ux, uy) w
 have hE2 := fun (w : World) => eq_cell (ax, ay) (vx, vy) w
 simp only at hE1 hE2
 rw [cellB_eq] at hE1 hE2
 obtain ⟨V, hV⟩ : ∃ V, thrV W l ((ux, uy), (vx, vy)) (ax, ay) = V := ⟨_, rfl⟩
 have V1 := hide (fun (h : (ax, ay) = (ux, uy)) => (show legV (ax, ay) (vx, vy) (costI l W (vx, vy)) = V from by rw [← hV]; unfold thrV; rw [if_pos h.symm]))
 have V2 := hide (fun (h : ¬ (ax, ay) = (ux, uy)) (h' : (ax, ay) = (vx, vy)) => (show legV (ax, ay) (ux, uy) (costI l W (ux, uy)) = V from by rw [← hV]; unfold thrV; rw [if_neg (fun e => h e.symm), if_pos h'.symm]))
 have V3 := hide (fun (h : ¬ (ax, ay) = (ux, uy)) (h' : ¬ (ax, ay) = (vx, vy)) => (show legV (0, 0) (0, 0) 0 = V from by rw [← hV]; unfold thrV; rw [if_neg (fun e => h e.symm), if_neg (fun e => h' e.symm)]))
 rw [hV]
 clear hV
 simp only
 go_enter Tryz.func101, Tryz.ntmps101
 go_upto_region 1 with (fail)
 obtain ⟨w1, hw1⟩ : ∃ z, z = ((w.alloc (.cells #[.int .i64 ux, .int .i64 uy, .int .i64 vx, .int .i64 vy] 160)).alloc (.cells #[.int .i64 ax, .int .i64 ay] 28)).alloc (.cells #[.int .i64 0, .int .i64 0, .int .i64 0, .int .i64 0, .int .u64 0] 56) := ⟨_, rfl⟩
 have X1 := hide (show Ext w w1 by rw [hw1]; exact (((Ext.refl _).alloc _).alloc _).alloc _)
 have G1 := hide (show Blk w1 w.heap.size 160 #[.int .i64 ux, .int .i64 uy, .int .i64 vx, .int .i64 vy] by rw [hw1]; exact (Blk.new_ rfl).over.over)
 have A1 := hide (show Blk w1 (w.heap.size + 1) 28 #[.int .i64 ax, .int .i64 ay] by rw [hw1]; exact (Blk.new_ (by simp)).over)
 have L1 := hide (show Blk w1 (w.heap.size + 1 + 1) 56 #[.int .i64 0, .int .i64 0, .int .i64 0, .int .i64 0, .int .u64 0] by rw [hw1]; exact Blk.new_ (by simp))
 rw [← hw1]
 obtain ⟨gb, hgb⟩ : ∃ z, w.heap.size = z := ⟨_, rfl⟩
 have zgw : w.heap.size ≤ gb := by omega
 rw [hgb] at G1 A1 L1 ⊢
 clear hw1 hgb
 have g0 := G1.out.at 0 rfl; have g1 := G1.out.at 1 rfl; have g2 := G1.out.at 2 rfl; have g3 := G1.out.at 3 rfl; have gz := G1.out.lt
 have c0 := A1.out.at 0 rfl; have c1 := A1.out.at 1 rfl; have cz := A1.out.lt
 have r0 := L1.out.at 0 rfl; have r1 := L1.out.at 1 rfl; have r2 := L1.out.at 2 rfl; have r3 := L1.out.at 3 rfl; have r4 := L1.out.at 4 rfl; have rz := L1.out.lt
 have S0 := hide (show CellsAt [(⟨gb, 0, none⟩, .int .i64 ux), (⟨gb, 1, none⟩, .int .i64 uy), (⟨gb, 2, none⟩, .int .i64 vx), (⟨gb, 3, none⟩, .int .i64 vy), (⟨gb + 1, 0, none⟩, .int .i64 ax), (⟨gb + 1, 1, none⟩, .int .i64 ay)] w1 from ⟨g0, g1, g2, g3, c0, c1, trivial⟩)
 have FIN : Hid (∀ (w2 : World) (a b c d e : Value), Ext w1 w2 → Blk (((((w2.setCell ⟨gb + 1 + 1, 0, none⟩ a).setCell ⟨gb + 1 + 1, 1, none⟩ b).setCell ⟨gb + 1 + 1, 2, none⟩ c).setCell ⟨gb + 1 + 1, 3, none⟩ d).setCell ⟨gb + 1 + 1, 4, none⟩ e) (gb + 1 + 1) 56 #[a, b, c, d, e] ∧ Ext w (((((w2.setCell ⟨gb + 1 + 1, 0, none⟩ a).setCell ⟨gb + 1 + 1, 1, none⟩ b).setCell ⟨gb + 1 + 1, 2, none⟩ c).setCell ⟨gb + 1 + 1, 3, none⟩ d).setCell ⟨gb + 1 + 1, 4, none⟩ e)) := hide (fun w2 a b c d e x => by
  refine ⟨?_, ?_⟩
  ·exact (((((L1.out.ext x).set_ 0 a).set_ 1 b).set_ 2 c).set_ 3 d).set_ 4 e
  ·exact (((((X1.out.trans x).setCell (p := ⟨gb + 1 + 1, 0, none⟩) (by simp; omega) a).setCell (p := ⟨gb + 1 + 1, 1, none⟩) (by simp; omega) b).setCell (p := ⟨gb + 1 + 1, 2, none⟩) (by simp; omega) c).setCell (p := ⟨gb + 1 + 1, 3, none⟩) (by simp; omega) d).setCell (p := ⟨gb + 1 + 1, 4, none⟩) (by simp; omega) e)
 have rf0 := L1.out.frozen 0
 have rf1 := L1.out.frozen 1
 have rf2 := L1.out.frozen 2
 have rf3 := L1.out.frozen 3
 have rf4 := L1.out.frozen 4
 by_cases e1 : (ax, ay) = (ux, uy)
 ·have d1 : decide ((ax, ay) = (ux, uy)) = true := by simpa using e1
  rw [d1] at hE1
  have HVV := hide (V1.out e1)
  go_upto_region 3 with (fail)
  refine seqR_start (S := (CellsAt [(⟨gb, 0, none⟩, .int .i64 ux), (⟨gb, 1, none⟩, .int .i64 uy), (⟨gb, 2, none⟩, .int .i64 vx), (⟨gb, 3, none⟩, .int .i64 vy), (⟨gb + 1, 0, none⟩, .int .i64 ax), (⟨gb + 1, 1, none⟩, .int .i64 ay)])) 8 [(0, true), (1, true), (2, true), (3, true), (4, true), (5, true), (6, false), (7, true), (8, false)] (by kernel_rfl) (by kernel_rfl) (by kernel_rfl) (by decide) (fun _ _ d _ _ h => by cases d <;> exact h) (CellsAt.ext ((Ext.refl _).drew) S0.out) (fun hHeld => ?_)
  iterate 6 (apply SeqR.free; (· (simp only [z_0, z_1, z_2]; rfl)); (· first | exact Or.inr ⟨by rfl, rfl⟩ | (refine Or.inl ⟨by rfl, ?_⟩; intro w hSw; (try dsimp only at hSw); simp only [CellsAt] at hSw; go_simp; try with_reducible rfl)); try simp only [Act.put, z_3, z_4, z_5])
  (apply SeqR.step; (· (simp only [z_0, z_1, z_2]; rfl)); intro K hK; go_simp; refine (HC2.out _ (X1.out.trans (by (with_reducible (repeat' (first | exact z_r _ | assumption | refine z_d ?_ | refine z_n ?_ _ | refine z_a ?_ _ | refine z_s ?_ ?_ _ | refine z_t ?_ (by assumption)))); all_goals (simp <;> omega)))).mono ?_; rintro e w3 ⟨rfl, x3⟩; have X3 := hide (show Ext w1 w3 from (by (with_reducible (repeat' (first | exact z_r _ | assumption | refine z_d ?_ | refine z_n ?_ _ | refine z_a ?_ _ | refine z_s ?_ ?_ _ | refine z_t ?_ (by assumption)))); all_goals (simp <;> omega))); have L3 := hide (L1.out.ext X3.out); have t0 := L3.out.at 0 rfl; have t1 := L3.out.at 1 rfl; have t2 := L3.out.at 2 rfl; have t3 := L3.out.at 3 rfl; have t4 := L3.out.at 4 rfl; have tz := L3.out.lt; have tf0 := L3.out.frozen 0; have tf1 := L3.out.frozen 1; have tf2 := L3.out.frozen 2; have tf3 := L3.out.frozen 3; have tf4 := L3.out.frozen 4; clear x3; go_wp2_with fail; refine hK.out _ _ (fun _ => (CellsAt.ext X3.out S0.out)) (fun hHeld => ?_); replace hHeld := hHeld (by decide); clear hK K; try simp only [Act.put, z_3, z_4, z_5])
  iterate 1 (apply SeqR.free; (· (simp only [z_0, z_1, z_2]; rfl)); (· first | exact Or.inr ⟨by rfl, rfl⟩ | (refine Or.inl ⟨by rfl, ?_⟩; intro w hSw; (try dsimp only at hSw); simp only [CellsAt] at hSw; go_simp; try with_reducible rfl)); try simp only [Act.put, z_3, z_4, z_5])
  (apply SeqR.step; (· (simp only [z_0, z_1, z_2]; rfl)); intro K hK; go_simp; refine hK.out _ _ (fun h => absurd rfl h) (fun hHeld => ?_); clear hK K; try simp only [Act.put, z_3, z_4, z_5])
  refine SeqR.done ?_
  clear hHeld t0 t1 t2 t3 t4 tz tf0 tf1 tf2 tf3 tf4 r0 r1 r2 r3 r4 rz rf0 rf1 rf2 rf3 rf4 c0 c1 cz g0 g1 g2 g3 gz
  have FB := hide (FIN.out w3 (.int .i64 ax) (.int .i64 ay) (.int .i64 vx) (.int .i64 vy) (.int .u64 (costI l W (vx, vy))) X3.out)
  have y0 := FB.out.1.at 0 rfl
  have y1 := FB.out.1.at 1 rfl
  have y2 := FB.out.1.at 2 rfl
  have y3 := FB.out.1.at 3 rfl
  have y4 := FB.out.1.at 4 rfl
  have yz := FB.out.1.lt
  go_wp2_with fail
  exact bodyPost_ret (v := .agg #[.int .i64 ax, .int .i64 ay, .int .i64 vx, .int .i64 vy, .int .u64 (costI l W (vx, vy))]) (by simp [results, Tryz.results101, go_sem, *]) rfl ⟨congrArg Ending.returned HVV.out, FB.out.2⟩
 ·have d1 : decide ((ax, ay) = (ux, uy)) = false := by simpa using e1
  rw [d1] at hE1
  by_cases e2 : (ax, ay) = (vx, vy)
  ·have d2 : decide ((ax, ay) = (vx, vy)) = true := by simpa using e2
   rw [d2] at hE2
   have HVV := hide (V2.out e1 e2)
   go_upto_region 5 with (fail)
   refine seqR_start (S := (CellsAt [(⟨gb, 0, none⟩, .int .i64 ux), (⟨gb, 1, none⟩, .int .i64 uy), (⟨gb, 2, none⟩, .int .i64 vx), (⟨gb, 3, none⟩, .int .i64 vy), (⟨gb + 1, 0, none⟩, .int .i64 ax), (⟨gb + 1, 1, none⟩, .int .i64 ay)])) 8 [(0, true), (1, true), (2, true), (3, true), (4, true), (5, true), (6, false), (7, true), (8, false)] (by kernel_rfl) (by kernel_rfl) (by kernel_rfl) (by decide) (fun _ _ d _ _ h => by cases d <;> exact h) (CellsAt.ext ((Ext.refl _).drew) S0.out) (fun hHeld => ?_)
   iterate 6 (apply SeqR.free; (· (simp only [z_0, z_1, z_2]; rfl)); (· first | exact Or.inr ⟨by rfl, rfl⟩ | (refine Or.inl ⟨by rfl, ?_⟩; intro w hSw; (try dsimp only at hSw); simp only [CellsAt] at hSw; go_simp; try with_reducible rfl)); try simp only [Act.put, z_3, z_4, z_5])
   (apply SeqR.step; (· (simp only [z_0, z_1, z_2]; rfl)); intro K hK; go_simp; refine (HC1.out _ (X1.out.trans (by (with_reducible (repeat' (first | exact z_r _ | assumption | refine z_d ?_ | refine z_n ?_ _ | refine z_a ?_ _ | refine z_s ?_ ?_ _ | refine z_t ?_ (by assumption)))); all_goals (simp <;> omega)))).mono ?_; rintro e w3 ⟨rfl, x3⟩; have X3 := hide (show Ext w1 w3 from (by (with_reducible (repeat' (first | exact z_r _ | assumption | refine z_d ?_ | refine z_n ?_ _ | refine z_a ?_ _ | refine z_s ?_ ?_ _ | refine z_t ?_ (by assumption)))); all_goals (simp <;> omega))); have L3 := hide (L1.out.ext X3.out); have t0 := L3.out.at 0 rfl; have t1 := L3.out.at 1 rfl; have t2 := L3.out.at 2 rfl; have t3 := L3.out.at 3 rfl; have t4 := L3.out.at 4 rfl; have tz := L3.out.lt; have tf0 := L3.out.frozen 0; have tf1 := L3.out.frozen 1; have tf2 := L3.out.frozen 2; have tf3 := L3.out.frozen 3; have tf4 := L3.out.frozen 4; clear x3; go_wp2_with fail; refine hK.out _ _ (fun _ => (CellsAt.ext X3.out S0.out)) (fun hHeld => ?_); replace hHeld := hHeld (by decide); clear hK K; try simp only [Act.put, z_3, z_4, z_5])
   iterate 1 (apply SeqR.free; (· (simp only [z_0, z_1, z_2]; rfl)); (· first | exact Or.inr ⟨by rfl, rfl⟩ | (refine Or.inl ⟨by rfl, ?_⟩; intro w hSw; (try dsimp only at hSw); simp only [CellsAt] at hSw; go_simp; try with_reducible rfl)); try simp only [Act.put, z_3, z_4, z_5])
   (apply SeqR.step; (· (simp only [z_0, z_1, z_2]; rfl)); intro K hK; go_simp; refine hK.out _ _ (fun h => absurd rfl h) (fun hHeld => ?_); clear hK K; try simp only [Act.put, z_3, z_4, z_5])
   refine SeqR.done ?_
   clear hHeld t0 t1 t2 t3 t4 tz tf0 tf1 tf2 tf3 tf4 r0 r1 r2 r3 r4 rz rf0 rf1 rf2 rf3 rf4 c0 c1 cz g0 g1 g2 g3 gz
   have FB := hide (FIN.out w3 (.int .i64 ax) (.int .i64 ay) (.int .i64 ux) (.int .i64 uy) (.int .u64 (costI l W (ux, uy))) X3.out)
   have y0 := FB.out.1.at 0 rfl
   have y1 := FB.out.1.at 1 rfl
   have y2 := FB.out.1.at 2 rfl
   have y3 := FB.out.1.at 3 rfl
   have y4 := FB.out.1.at 4 rfl
   have yz := FB.out.1.lt
   go_wp2_with fail
   exact bodyPost_ret (v := .agg #[.int .i64 ax, .int .i64 ay, .int .i64 ux, .int .i64 uy, .int .u64 (costI l W (ux, uy))]) (by simp [results, Tryz.results101, go_sem, *]) rfl ⟨congrArg Ending.returned HVV.out, FB.out.2⟩
  ·have d2 : decide ((ax, ay) = (vx, vy)) = false := by simpa using e2
   rw [d2] at hE2
   have HVV := hide (V3.out e1 e2)
   have FB := hide (FIN.out w1 (.int .i64 0) (.int .i64 0) (.int .i64 0) (.int .i64 0) (.int .u64 0) (Ext.refl _))
   have y0 := FB.out.1.at 0 rfl
   have y1 := FB.out.1.at 1 rfl
   have y2 := FB.out.1.at 2 rfl
   have y3 := FB.out.1.at 3 rfl
   have y4 := FB.out.1.at 4 rfl
   have yz := FB.out.1.lt
   go_wp2_with fail
   exact bodyPost_ret (v := .agg #[.int .i64 0, .int .i64 0, .int .i64 0, .int .i64 0, .int .u64 0]) (by simp [results, Tryz.results101, go_sem, *]) rfl ⟨congrArg Ending.returned HVV.out, FB.out.2⟩
end
end Go.Proofs.YtaellcgglldjaaaGreat

namespace Go.Proofs.YtaellcgglldjaaaGreat
open Go.RowKit
theorem ltC_ne {a b : Cell} (h : ltC a b) : a ≠ b := by
 rintro rfl
 unfold ltC at h
 omega
theorem strict_nodup {l : List Cell} (h : l.Pairwise ltC) : l.Nodup := h.imp ltC_ne
theorem sub_len {α : Type} [DecidableEq α] : ∀ {l l' : List α}, l.Nodup → (∀ c ∈ l, c ∈ l') → l.length ≤ l'.length
 | [], _, _, _ => Nat.zero_le _
 | a :: l, l', hn, hs => by
  obtain ⟨h1, h2⟩ := List.nodup_cons.1 hn
  have ha := hs a (by simp)
  have h3 : l.length ≤ (l'.erase a).length := sub_len h2 (fun c hc => (List.mem_erase_of_ne (fun e => by rw [e] at hc; exact h1 hc)).2 (hs c (by simp [hc])))
  rw [List.length_erase_of_mem ha] at h3
  have := List.length_pos_of_mem ha
  rw [List.length_cons]
  omega
theorem sub_all {α : Type} [DecidableEq α] {l l' : List α} (hn : l.Nodup) (hs : ∀ c ∈ l, c ∈ l') (hl : l'.length ≤ l.length) : ∀ c ∈ l', c ∈ l := fun c hc => by
 refine Classical.byContradiction fun h => ?_
 have h1 := sub_len (l := c :: l) (List.nodup_cons.2 ⟨h, hn⟩) (fun x hx => by
  rcases List.mem_cons.1 hx with rfl | hx
  ·exact hc
  ·exact hs x hx)
 rw [List.length_cons] at h1
 omega
def inC (W H s : Int) (G : List (Cell × Cell)) (f t : Cell) (id : Int) : List Cell := (nodesL W H G f t).filter fun c => decide (ofN W s c.1 c.2 = id)
theorem inC_strict (W H s : Int) (G : List (Cell × Cell)) (f t : Cell) (id : Int) : (inC W H s G f t id).Pairwise ltC := (nodesL_strict W H G f t).filter _
theorem inC_mem {W H s : Int} (hm : mayB W H = true) {G : List (Cell × Cell)} {f t : Cell} {id : Int} {c : Cell} : c ∈ inC W H s G f t id ↔ (inB W H c.1 c.2 = true ∧ ofN W s c.1 c.2 = id) ∧ (c = f ∨ c = t ∨ gIn G c = true) := by
 unfold inC
 rw [List.mem_filter, nodesL_mem, decide_eq_true_eq]
 have h := mayB_true.1 hm
 constructor
 ·rintro ⟨⟨h1, h2⟩, h3⟩
  exact ⟨⟨inB_true.2 (by omega), h3⟩, h2⟩
 ·rintro ⟨⟨h1, h3⟩, h2⟩
  have := inB_true.1 h1
  exact ⟨⟨by omega, h2⟩, h3⟩
theorem inC_of {W H s : Int} {l : List Int} (g : Good W H s l) {f t : Cell} {id : Int} (hid : 0 ≤ id ∧ id < cnt W H s) (hf : inB W H f.1 f.2 = true) (ht : inB W H t.1 t.2 = true) {L : List Cell} (hs : L.Pairwise ltC)
  (hm : ∀ c, c ∈ L ↔ c ∈ celA W H s l id ∨ (c = f ∧ ofN W s f.1 f.2 = id) ∨ (c = t ∧ ofN W s t.1 t.2 = id)) : L = inC W H s (gatesA W H s l) f t id := by
 refine strict_unique hs (inC_strict _ _ _ _ _ _ _) fun c => ?_
 rw [hm, inC_mem (checkE_ok.1 g.ok).1]
 unfold celA
 rw [cellsL_mem g.right hid.1 hid.2]
 unfold inK
 constructor
 ·rintro (⟨⟨h1, h2⟩, h3⟩ | ⟨rfl, h⟩ | ⟨rfl, h⟩)
  ·exact ⟨⟨h1, h2⟩, .inr (.inr h3)⟩
  ·exact ⟨⟨hf, h⟩, .inl rfl⟩
  ·exact ⟨⟨ht, h⟩, .inr (.inl rfl)⟩
 ·rintro ⟨⟨h1, h2⟩, rfl | rfl | h3⟩
  ·exact .inr (.inl ⟨rfl, h2⟩)
  ·exact .inr (.inr ⟨rfl, h2⟩)
  ·exact .inl ⟨⟨h1, h2⟩, h3⟩
theorem cel_sub {W H s : Int} {l : List Int} (g : Good W H s l) {f t : Cell} {id : Int} (hid : 0 ≤ id ∧ id < cnt W H s) : ∀ c ∈ celA W H s l id, c ∈ inC W H s (gatesA W H s l) f t id := fun c hc => by
 unfold celA at hc
 rw [cellsL_mem g.right hid.1 hid.2] at hc
 exact (inC_mem (checkE_ok.1 g.ok).1).2 ⟨hc.1, .inr (.inr hc.2)⟩
theorem cel_eq {W H s : Int} {l : List Int} (g : Good W H s l) {f t : Cell} {id : Int} (hid : 0 ≤ id ∧ id < cnt W H s) (hl : (inC W H s (gatesA W H s l) f t id).length = (celA W H s l id).length) : inC W H s (gatesA W H s l) f t id = celA W H s l id := by
 have hc : (celA W H s l id).Pairwise ltC := cellsL_strict _ _ _ _ _
 exact strict_unique (inC_strict _ _ _ _ _ _ _) hc fun c => ⟨sub_all (strict_nodup hc) (cel_sub g hid) (by omega) c, cel_sub g hid c⟩
theorem inC_len {W H s : Int} {l : List Int} (g : Good W H s l) {f t : Cell} {id : Int} (hid : 0 ≤ id ∧ id < cnt W H s) : (inC W H s (gatesA W H s l) f t id).length ≤ 258 := by
 have h1 := celA_len (l := l) g hid
 have h2 := sub_len (l := inC W H s (gatesA W H s l) f t id) (l' := f :: t :: celA W H s l id) (strict_nodup (inC_strict _ _ _ _ _ _ _)) (fun c hc => by
  obtain ⟨⟨h1, h2⟩, h3⟩ := (inC_mem (checkE_ok.1 g.ok).1).1 hc
  rcases h3 with rfl | rfl | h3
  ·simp
  ·simp
  ·have : c ∈ celA W H s l id := by unfold celA; rw [cellsL_mem g.right hid.1 hid.2]; exact ⟨⟨h1, h2⟩, h3⟩
   simp [this])
 simp only [List.length_cons] at h2
 omega
theorem inC_to {W H s : Int} {l : List Int} (g : Good W H s l) {f t : Cell} {id : Int} (hid : 0 ≤ id ∧ id < cnt W H s) : innerE W H l.length W H s id (inC W H s (gatesA W H s l) f t id) = 0 := by
 refine innerE_ok.2 ⟨g.ok, rfl, rfl, g.right, hid, cellsE_of fun k hk => ?_⟩
 have hst := inC_strict W H s (gatesA W H s l) f t id
 have hmem : ∀ c ∈ inC W H s (gatesA W H s l) f t id, inId W H s id c = true := fun c hc => by
  obtain ⟨⟨h1, h2⟩, _⟩ := (inC_mem (checkE_ok.1 g.ok).1).1 hc
  unfold inId
  rw [h1, h2]
  simp
 generalize inC W H s (gatesA W H s l) f t id = C at *
 have hin := hmem _ (List.getElem_mem hk)
 unfold cellBad
 have e : C.getD k (0, 0) = C[k] := by simp [List.getD_eq_getElem?_getD, hk]
 rw [e, if_neg (by rw [hin]; simp)]
 rw [if_neg]
 rintro ⟨h0, hr⟩
 have e2 : C.getD (k - 1) (0, 0) = C[k - 1] := by
  have : k - 1 < C.length := by omega
  simp [List.getD_eq_getElem?_getD, this]
 rw [e2] at hr
 have hlt := List.pairwise_iff_getElem.1 hst (k - 1) k (by omega) hk (by omega)
 unfold ltC at hlt
 unfold riseB at hr
 simp at hr
 omega
theorem dist_row {W H s : Int} {l : List Int} {a : Cell} (L : boxL W H s (ofN W s a.1 a.2) l) (cs : List Cell) : rowD L cs a = cs.map (distB W H s l a) := by
 unfold rowD
 refine List.map_congr_left fun q _ => ?_
 unfold distB
 rw [dif_pos L]
end Go.Proofs.YtaellcgglldjaaaGreat

