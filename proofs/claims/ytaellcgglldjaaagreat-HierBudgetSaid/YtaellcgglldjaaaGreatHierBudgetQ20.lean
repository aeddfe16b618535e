/- Part of a proof: HierA RefL HierB. -/
import Derived.Test.YtaellcgglldjaaaGreatHierBudgetQ10
import Derived.Test.YtaellcgglldjaaaGreatHierBudgetQ11
import Derived.Test.YtaellcgglldjaaaGreatHierBudgetQ19
import Derived.Test.YtaellcgglldjaaaGreatHierBudgetQ09
import Derived.Test.YtaellcgglldjaaaGreatHierBudgetQ06
import Derived.Deep.CutBlock
import Derived.Test.YtaellcgglldjaaaGreatHierBudgetQ18
import Derived.Test.YtaellcgglldjaaaGreatHierBudgetQ17
set_option linter.all false
set_option linter.unusedVariables false
set_option linter.unusedSimpArgs false
namespace Go.Proofs.YtaellcgglldjaaaGreat
open Go.RowKit
theorem cmpH_any (p q : Cell) (w : World) : Calls Tryz.prog 152 #[.agg #[.int .i64 p.1, .int .i64 p.2], .agg #[.int .i64 q.1, .int .i64 q.2]] w fun e w' => e = .returned (.int .i64 (cmpC p q)) ∧ Grown w w' := by
 obtain ⟨px, py⟩ := p
 obtain ⟨qx, qy⟩ := q
 have HC := hide (show cmpC (px, py) (qx, qy) = orI (Go.Lib.compareInt py qy) (Go.Lib.compareInt px qx) from rfl)
 rw [HC.out]
 simp only
 go_enter Tryz.func152, Tryz.ntmps152
 go_wp2_with fail
 have G2 := hide (((Grown.refl w).alloc (.cells #[.int .i64 px, .int .i64 py] 28)).alloc (.cells #[.int .i64 qx, .int .i64 qy] 28))
 have S2 : Hid (CellsAt [(⟨w.heap.size, 0, none⟩, .int .i64 px), (⟨w.heap.size, 1, none⟩, .int .i64 py), (⟨w.heap.size + 1, 0, none⟩, .int .i64 qx), (⟨w.heap.size + 1, 1, none⟩, .int .i64 qy)] ((w.alloc (.cells #[.int .i64 px, .int .i64 py] 28)).alloc (.cells #[.int .i64 qx, .int .i64 qy] 28))) := hide ⟨by simp, by simp, by simp, by simp, trivial⟩
 obtain ⟨w2, hw2⟩ : ∃ w2, (w.alloc (.cells #[.int .i64 px, .int .i64 py] 28)).alloc (.cells #[.int .i64 qx, .int .i64 qy] 28) = w2 := ⟨_, rfl⟩
 rw [hw2] at G2 S2 ⊢
 obtain ⟨g, hg⟩ : ∃ g, w.heap.size = g := ⟨_, rfl⟩
 rw [hg] at S2 ⊢
 clear hw2 hg HC
 refine seqH_start (S := (fun X => CellsAt [(⟨g, 0, none⟩, .int .i64 px), (⟨g, 1, none⟩, .int .i64 py), (⟨g + 1, 0, none⟩, .int .i64 qx), (⟨g + 1, 1, none⟩, .int .i64 qy)] X ∧ Grown w X)) [(0, true), (1, true), (2, true), (3, true), (5, true), (6, true), (7, true), (8, true), (4, false), (9, false), (10, false), (11, false), (12, true)] (by kernel_rfl) (by kernel_rfl) (by kernel_rfl) (by decide) (fun _ _ d _ _ h => by cases d <;> exact h) ⟨CellsAt.ext ((Ext.refl _).drew) S2.out, G2.out.drew⟩ (fun hHeld => ?_)
 iterate 8 (apply SeqH.free; (· (simp only [z_0, z_1, z_2]; rfl)); (· first | exact Or.inr ⟨by rfl, rfl⟩ | (refine Or.inl ⟨by rfl, ?_⟩; intro w hSw; (try dsimp only at hSw); simp only [CellsAt] at hSw; go_simp; try with_reducible rfl)); try simp only [Act.put, z_3, z_4, z_5])
 (apply SeqH.step; (· (simp only [z_0, z_1, z_2]; rfl)); intro K hK; go_simp; refine (cmpI_anyG _ _ _).mono ?_; rintro e9 w9 ⟨rfl, rfl⟩; go_wp2_with fail; refine hK.out _ _ (⟨CellsAt.ext (by (with_reducible (repeat' (first | exact z_r _ | assumption | refine z_d ?_ | refine z_n ?_ _ | refine z_a ?_ _ | refine z_s ?_ ?_ _ | refine z_t ?_ (by assumption)))); all_goals (simp <;> omega)) S2.out, G2.out.drew⟩) (fun hHeld => ?_); clear hK K; try simp only [Act.put, z_3, z_4, z_5])
 (apply SeqH.step; (· (simp only [z_0, z_1, z_2]; rfl)); intro K hK; go_simp; refine (cmpI_anyG _ _ _).mono ?_; rintro e9 w9 ⟨rfl, rfl⟩; go_wp2_with fail; refine hK.out _ _ (⟨CellsAt.ext (by (with_reducible (repeat' (first | exact z_r _ | assumption | refine z_d ?_ | refine z_n ?_ _ | refine z_a ?_ _ | refine z_s ?_ ?_ _ | refine z_t ?_ (by assumption)))); all_goals (simp <;> omega)) S2.out, G2.out.drew⟩) (fun hHeld => ?_); clear hK K; try simp only [Act.put, z_3, z_4, z_5])
 (apply SeqH.step; (· (simp only [z_0, z_1, z_2]; rfl)); intro K hK; go_simp; refine hK.out _ _ (⟨CellsAt.ext (by (with_reducible (repeat' (first | exact z_r _ | assumption | refine z_d ?_ | refine z_n ?_ _ | refine z_a ?_ _ | refine z_s ?_ ?_ _ | refine z_t ?_ (by assumption)))); all_goals (simp <;> omega)) S2.out, (G2.out.drew).alloc _⟩) (fun hHeld => ?_); clear hK K; try simp only [Act.put, z_3, z_4, z_5])
 (apply SeqH.step; (· (simp only [z_0, z_1, z_2]; rfl)); intro K hK; go_simp; refine (or2_any (Go.Lib.compareInt py qy) (Go.Lib.compareInt px qx) w2.heap.size _ ?_).mono ?_; (· exact fun k hk => two_at w2 _ _ _ _ rfl k hk); rintro e9 w9 ⟨rfl, rfl⟩; go_wp2_with fail; refine hK.out _ _ (⟨CellsAt.ext (by (with_reducible (repeat' (first | exact z_r _ | assumption | refine z_d ?_ | refine z_n ?_ _ | refine z_a ?_ _ | refine z_s ?_ ?_ _ | refine z_t ?_ (by assumption)))); all_goals (simp <;> omega)) S2.out, (G2.out.drew).alloc _⟩) (fun hHeld => ?_); clear hK K; try simp only [Act.put, z_3, z_4, z_5])
 iterate 1 (apply SeqH.free; (· (simp only [z_0, z_1, z_2]; rfl)); (· first | exact Or.inr ⟨by rfl, rfl⟩ | (refine Or.inl ⟨by rfl, ?_⟩; intro w hSw; (try dsimp only at hSw); simp only [CellsAt] at hSw; go_simp; try with_reducible rfl)); try simp only [Act.put, z_3, z_4, z_5])
 refine SeqH.done ?_
 have G := hide hHeld.2
 clear hHeld
 go_wp2
 go_ret
 exact ⟨rfl, G.out⟩
theorem cmpH_lays (blk off size : Nat) (w : World) : Go.Proofs.CmpLays Tryz.prog 152 #[] encC 2 cmpC blk off size w :=
 fun _ _ _ _ x y => cmpH_any x y _
theorem sortH_any {w : World} {v : Value} {base : Nat} {l : List Cell} (h : Own cellE w base 28 v l) (hl : l.length ≤ 1000000) :
  Calls Tryz.prog 133 #[v, .func (.func 152) #[] #[]] w fun e w' => e = .returned (.tuple #[]) ∧ Own cellE w' base 28 v (sortL l) ∧ Touch (fun k => v.ownBlock = some k) w w' := by
 obtain ⟨a, c, rfl⟩ := h.slice
 rcases h.2 with ⟨hv, h0⟩ | ⟨g, cap, cur, hv, hb, hg, _⟩
 ·obtain rfl : l = [] := List.eq_nil_of_length_eq_zero h0
  exact (Go.Proofs.AnyF.slices_SortFunc_none sortC a c _ w).mono fun e w' ⟨he, hw⟩ => ⟨he, by rw [hw, show sortL [] = [] by simp [sortL]]; exact h, by rw [hw]; exact Touch.refl _ _⟩
 ·cases hv
  have eg : ∀ args w, (callFunc 152 args).run Tryz.prog w = .ok (.enter 152 args) w := enters_of Tryz.func152 (by kernel_rfl) rfl
  refine (Go.Proofs.AnyQ.slices_SortFunc_total sortC 2 Tryz.isAgg28 Tryz.sizeOf28 encC (fun _ => rfl) (fun x v hv => by simp [encC] at hv; rcases hv with rfl | rfl <;> rfl) cmpC cmpC_swo 152 #[] g 0 c l.toArray w eg (cmpH_lays _ _ _ _) (own_holdsC h) (lt_of_block hg) (by simp; omega) cmpC_total).mono ?_
  rintro e w' ⟨rfl, n, os, rfl⟩
  have o1 : Own cellE (Go.Sort.ahead w n) base 28 (.slice (some ⟨g, 0, none⟩) l.length c) l := h
  have o2 := own_putC o1 (l' := sortL l) (sortL_perm l).length_eq
  have t1 : Touch (fun k => k = g) w (Go.Sort.putRowK encC 2 (Go.Sort.ahead w n) g 0 (sortL l).toArray) := (touch_aheadI _ w n).trans (touch_putRowI _ _ _ _ _)
  refine ⟨rfl, o2.touch (touch_growI (fun _ => False) _ os) (fun _ _ x => x), (t1.trans (touch_growI _ _ os)).mono (fun k _ hk => by rw [hk]; rfl)⟩
def Ordered (w : World) (base : Nat) (v : Value) (L : List Cell) (e : Ending) (w' : World) : Prop :=
 ∃ v' L', e = .returned v' ∧ Own cellE w' base 28 v' L' ∧ L'.Pairwise ltC ∧ (∀ c, c ∈ L' ↔ c ∈ L) ∧ Touch (fun k => v.ownBlock = some k) w w'
theorem order_any {w : World} {v : Value} {base : Nat} {L : List Cell} (h : Own cellE w base 28 v L) (hl : L.length ≤ 100000) :
  Calls Tryz.prog 97 #[v] w (Ordered w base v L) := by
 have HS := hide (sortH_any h (by omega))
 have HL := hide hl
 obtain ⟨a, c, rfl⟩ := h.slice
 clear h hl
 go_enter Tryz.func97, Tryz.ntmps97
 go_wp2_with fail
 refine (HS.out).mono ?_
 rintro e w1 ⟨rfl, o1, t1⟩
 have HC := hide (compact_any (by rw [(sortL_perm L).length_eq]; exact HL.out) (sortL_sorted L) o1)
 have T1 := hide t1
 clear o1 t1
 go_wp2_with fail
 refine (HC.out).mono ?_
 rintro e w2 ⟨v', L', rfl, o2, hs, hm, t2⟩
 have O2 := hide o2
 have HSS := hide hs
 have HM := hide hm
 have T2 := hide t2
 obtain ⟨a', c', rfl⟩ := o2.slice
 clear o2 hs hm t2
 go_wp2_with fail
 go_ret
 exact ⟨_, L', rfl, O2.out, HSS.out, fun c => (HM.out c).trans (sortL_perm L).mem_iff, T1.out.trans T2.out⟩
def landCells (pb : Nat) (W H s : Int) (fa : Option Addr) (n fc : Nat) (gv : Value) (f t : Cell) : Array Value :=
 #[.pointer (some ⟨pb, 0, none⟩), .int .i64 W, .int .i64 H, .slice fa n fc, .int .i64 W, .int .i64 H, .int .i64 s, gv, .int .i64 f.1, .int .i64 f.2, .int .i64 t.1, .int .i64 t.2]
structure HLand (w : World) (lb : Nat) (p : Spot) (R : Nat → Prop) (W H s : Int) (l : List Int) (fa : Option Addr) (fc : Nat) (ga : Option Addr) (gc : Nat) (f t : Cell) : Prop where
 world : WorldAt w p R W H s l
 blk : Blk w lb 176 (landCells p.b W H s fa l.length fc (.slice ga (gatesA W H s l).length gc) f t)
 row : Row16 w fa l
 gates : Own pairE w 0 160 (.slice ga (gatesA W H s l).length gc) (gatesA W H s l)
 inF : inB W H f.1 f.2 = true
 inT : inB W H t.1 t.2 = true
theorem HLand.ext {w w' : World} {lb : Nat} {p : Spot} {R : Nat → Prop} {W H s : Int} {l : List Int} {fa : Option Addr} {fc : Nat} {ga : Option Addr} {gc : Nat} {f t : Cell} (h : HLand w lb p R W H s l fa fc ga gc f t) (x : Ext w w') : HLand w' lb p R W H s l fa fc ga gc f t where
 world := h.world.ext x
 blk := h.blk.ext x
 row := h.row.ext x
 gates := h.gates.ext x
 inF := h.inF
 inT := h.inT
theorem HLand.good {w : World} {lb : Nat} {p : Spot} {R : Nat → Prop} {W H s : Int} {l : List Int} {fa : Option Addr} {fc : Nat} {ga : Option Addr} {gc : Nat} {f t : Cell} (h : HLand w lb p R W H s l fa fc ga gc f t) : Good W H s l := by
 obtain ⟨G, T, h1, _⟩ := h.world; exact h1.good
section
variable {w : World} {lb : Nat} {p : Spot} {R : Nat → Prop} {W H s : Int} {l : List Int} {fa : Option Addr} {fc : Nat} {ga : Option Addr} {gc : Nat} {f t : Cell}
theorem number_any (h : HLand w lb p R W H s l fa fc ga gc f t) {c : Cell} (hc : inB W H c.1 c.2 = true) :
  Calls Tryz.prog 85 #[.pointer (some ⟨lb, 0, none⟩), .agg #[.int .i64 c.1, .int .i64 c.2]] w fun e w' => e = .returned (.int .i64 (idxN W c : Nat)) ∧ Ext w w' := by
 have B := hide h.blk
 unfold landCells at B
 have hb := inB_true.1 hc
 have hix : ((idxN W (c.1, c.2) : Nat) : Int) = c.2 * W + c.1 := idx_int (by omega) (by omega) (by omega)
 have hpm : 0 ≤ c.2 * W ∧ c.2 * W ≤ 4294967296 := mul_bd (a := c.2) (b := W) (A := 65536) (B := 65536) (by omega) (by omega) (by omega) (by omega)
 obtain ⟨x, y⟩ := c
 simp only at hb hix hpm
 have k1 : IntKind.i64.wrap (y * W) = y * W := IntWalk.i64_in _ (by omega)
 have k2 : IntKind.i64.wrap (y * W + x) = ((idxN W (x, y) : Nat) : Int) := by rw [IntWalk.i64_in _ (by omega)]; exact hix.symm
 obtain ⟨n, hn⟩ : ∃ z, l.length = z := ⟨_, rfl⟩
 obtain ⟨m, hm⟩ : ∃ z, (gatesA W H s l).length = z := ⟨_, rfl⟩
 rw [hn, hm] at B
 have b0 := B.out.at 0 rfl; have b1 := B.out.at 1 rfl; have b2 := B.out.at 2 rfl; have b3 := B.out.at 3 rfl; have bz := B.out.lt
 clear h hc hb hix hpm hn hm
 go_enter Tryz.func85, Tryz.ntmps85
 go_wp2_with fail
 go_quiet (fail)
 go_wp2_with fail
 go_ret
 exact ⟨rfl, (by (with_reducible (repeat' (first | exact z_r _ | assumption | refine z_d ?_ | refine z_n ?_ _ | refine z_a ?_ _ | refine z_s ?_ ?_ _ | refine z_t ?_ (by assumption)))); all_goals (simp <;> omega))⟩
theorem cost_any (h : HLand w lb p R W H s l fa fc ga gc f t) {c : Cell} (hc : inB W H c.1 c.2 = true) :
  Calls Tryz.prog 41 #[.pointer (some ⟨lb, 0, none⟩), .agg #[.int .i64 c.1, .int .i64 c.2]] w fun e w' => e = .returned (.int .u64 (costI l W c)) ∧ Ext w w' := by
 have HNB := hide (fun (w' : World) (x : Ext w w') => number_any (h.ext x) hc)
 have B := hide h.blk
 unfold landCells at B
 have hlen : (l.length : Int) = W * H := (checkE_ok.1 h.good.ok).2
 have hik := idx_len hlen hc
 obtain ⟨rb, ro, hfa, hrb, hrc⟩ := h.row (by omega)
 have d0 := hrc _ hik
 have hcst : l[idxN W c] = costI l W c := by
  unfold costI
  have hb := inB_true.1 hc
  have hix : ((idxN W (c.1, c.2) : Nat) : Int) = c.2 * W + c.1 := idx_int (by omega) (by omega) (by omega)
  have e : (c.2 * W + c.1).toNat = idxN W c := by
   have : idxN W c = idxN W (c.1, c.2) := rfl
   omega
  rw [e, List.getD_eq_getElem?_getD, List.getElem?_eq_getElem hik]
  rfl
 rw [hcst] at d0
 have hu := h.good.u16 _ (List.getElem_mem hik)
 rw [hcst] at hu
 subst hfa
 obtain ⟨x, y⟩ := c
 have hin : (idxN W (x, y) : Int) < (l.length : Int) := by omega
 have HIK := hide hik
 simp only at HNB
 generalize idxN W (x, y) = ix at *
 generalize costI l W (x, y) = cv at *
 have k1 : IntKind.u64.wrap cv = cv := by rw [IntKind.wrap_u64]; omega
 obtain ⟨n, hn⟩ : ∃ z, l.length = z := ⟨_, rfl⟩
 obtain ⟨m, hm⟩ : ∃ z, (gatesA W H s l).length = z := ⟨_, rfl⟩
 rw [hn, hm] at B
 rw [hn] at hin
 have b0 := B.out.at 0 rfl; have b1 := B.out.at 1 rfl; have b2 := B.out.at 2 rfl; have b3 := B.out.at 3 rfl; have bz := B.out.lt
 clear h hc hlen hik hrc hcst hu hn hm HIK
 go_enter Tryz.func41, Tryz.ntmps41
 go_wp2_with fail
 obtain ⟨w1, hw1⟩ : ∃ z, z = w.alloc (.cells #[.int .i64 x, .int .i64 y] 28) := ⟨_, rfl⟩
 have x1 : Ext w w1 := by rw [hw1]; exact (Ext.refl _).alloc _
 have C1 := hide (show Blk w1 w.heap.size 28 #[.int .i64 x, .int .i64 y] by rw [hw1]; exact Blk.new_ rfl)
 have B1 := hide (B.out.ext x1)
 have d1 := (x1.cell (p := ⟨rb, ro + ix, none⟩) hrb).trans d0
 have z1 := x1.size
 have hrb1 : rb < w1.heap.size := by omega
 rw [← hw1]
 clear hw1 b0 b1 b2 b3 bz d0
 have c0 := C1.out.at 0 rfl; have c1 := C1.out.at 1 rfl; have cz := C1.out.lt
 have b0 := B1.out.at 0 rfl; have b1 := B1.out.at 1 rfl; have b2 := B1.out.at 2 rfl; have b3 := B1.out.at 3 rfl; have bz := B1.out.lt
 refine seqH_start (S := (fun W => (∀ b o, b < w1.heap.size → W.cell? ⟨b, o, none⟩ = w1.cell? ⟨b, o, none⟩) ∧ Ext w1 W)) [(0, true), (1, true), (2, true), (3, true), (4, true), (5, true), (6, true), (7, false), (8, true), (9, true), (10, true), (11, true)] (by kernel_rfl) (by kernel_rfl) (by kernel_rfl) (by decide) (fun _ _ d _ _ h => by cases d <;> exact h) (by first | with_reducible exact pr_start _ | exact pr_of (by (with_reducible (repeat' (first | exact z_r _ | assumption | refine z_d ?_ | refine z_n ?_ _ | refine z_a ?_ _ | refine z_s ?_ ?_ _ | refine z_t ?_ (by assumption)))); all_goals (simp <;> omega))) (fun hHeld => ?_)
 iterate 7 (apply SeqH.free; (· (simp only [z_0, z_1, z_2]; rfl)); (· first | exact Or.inr ⟨by rfl, rfl⟩ | (refine Or.inl ⟨by rfl, ?_⟩; intro w hSw; (try dsimp only at hSw); go_simp; try with_reducible rfl)); try simp only [Act.put, z_3, z_4, z_5])
 (apply SeqH.step; (· (simp only [z_0, z_1, z_2]; rfl)); intro K hK; go_simp; refine (HNB.out _ (x1.trans (by (with_reducible (repeat' (first | exact z_r _ | assumption | refine z_d ?_ | refine z_n ?_ _ | refine z_a ?_ _ | refine z_s ?_ ?_ _ | refine z_t ?_ (by assumption)))); all_goals (simp <;> omega)))).mono ?_; rintro e w2 ⟨rfl, hb2⟩; go_wp2_with fail; refine hK.out _ _ (pr_of (by (with_reducible (repeat' (first | exact z_r _ | assumption | refine z_d ?_ | refine z_n ?_ _ | refine z_a ?_ _ | refine z_s ?_ ?_ _ | refine z_t ?_ (by assumption)))); all_goals (simp <;> omega))) (fun hHeld => ?_); clear hK K; try simp only [Act.put, z_3, z_4, z_5])
 iterate 4 (apply SeqH.free; (· (simp only [z_0, z_1, z_2]; rfl)); (· first | exact Or.inr ⟨by rfl, rfl⟩ | (refine Or.inl ⟨by rfl, ?_⟩; intro w hSw; (try dsimp only at hSw); go_simp; try with_reducible rfl)); try simp only [Act.put, z_3, z_4, z_5])
 refine SeqH.done ?_
 have XE := hide hHeld.2
 clear hHeld
 go_wp2_with fail
 go_ret
 exact ⟨rfl, x1.trans XE.out⟩
end
end Go.Proofs.YtaellcgglldjaaaGreat

namespace Go.Proofs.YtaellcgglldjaaaGreat
open Go.RowKit
theorem readsC_at {w : World} {a : Option Addr} {n c : Nat} {l : List Cell} {k : Nat} {q : Cell} (h : Reads cellE w (.slice a n c) l) (hk : l[k]? = some q) : ∃ b off, a = some ⟨b, off, none⟩ ∧ b < w.heap.size ∧ w.cell? ⟨b, off + k * 2, none⟩ = some (.int .i64 q.1) ∧ w.cell? ⟨b, off + k * 2 + 1, none⟩ = some (.int .i64 q.2) := by
 rcases h with ⟨_, rfl⟩ | ⟨b, off, cap, hv, hb, hc⟩
 ·simp at hk
 ·cases hv
  refine ⟨b, off, rfl, hb, ?_, ?_⟩
  ·have := hc k q hk 0 _ rfl
   simpa [cellE] using this
  ·have := hc k q hk 1 _ rfl
   simpa [cellE, Nat.add_assoc] using this
end Go.Proofs.YtaellcgglldjaaaGreat

namespace Go.Proofs.YtaellcgglldjaaaGreat
open Go.RowKit
section
variable {w : World} {lb : Nat} {p : Spot} {R : Nat → Prop} {W H s : Int} {l : List Int} {fa : Option Addr} {fc : Nat} {ga : Option Addr} {gc : Nat} {f t : Cell}
end
theorem own_lit2 (w : World) (base b : Nat) (f t : Cell) (hb : b = w.heap.size) (hbase : base ≤ b) : Own cellE (w.alloc (.cells #[.int .i64 f.1, .int .i64 f.2, .int .i64 t.1, .int .i64 t.2] 28)) base 28 (.slice (some ⟨b, 0, none⟩) 2 2) [f, t] := by
 subst hb
 exact ⟨by simp [cellE], .inr ⟨w.heap.size, 2, #[.int .i64 f.1, .int .i64 f.2, .int .i64 t.1, .int .i64 t.2], rfl, hbase, heap_alloc_new w _, by simp, by decide, by simp [cellE], by simp [cellE]⟩⟩
def Looked (w : World) (p : Spot) (R : Nat → Prop) (W H s : Int) (l : List Int) (f t : Cell) (more : List Cell) (e : Ending) (w' : World) : Prop :=
 ((((f :: t :: more).all fun c => inB W H c.1 c.2) = false) ∧ e = .returned (.tuple #[.pointer none, .int .i64 10]) ∧ Ext w w') ∨
 ((((f :: t :: more).all fun c => inB W H c.1 c.2) = true) ∧ ∃ lb fa fc ga gc, e = .returned (.tuple #[.pointer (some ⟨lb, 0, none⟩), .int .i64 0]) ∧ Ext w w' ∧ HLand w' lb p R W H s l fa fc ga gc f t)
set_option maxRecDepth 100000 in
set_option maxHeartbeats 1000000 in
theorem look_any {w : World} {p : Spot} {R : Nat → Prop} {W H s : Int} {l : List Int} (h : WorldAt w p R W H s l) (f t : Cell) (more : List Cell) (ma : Option Addr) (mc : Nat) (hm : Reads cellE w (.slice ma more.length mc) more) (hml : more.length ≤ 1000) :
  Calls Tryz.prog 40 #[.pointer (some ⟨p.b, 0, none⟩), .agg #[.int .i64 f.1, .int .i64 f.2], .agg #[.int .i64 t.1, .int .i64 t.2], .slice ma more.length mc] w (Looked w p R W H s l f t more) := by
 have HW := hide h
 have HP := hide (fun (w' : World) (x : Ext w w') => (by obtain ⟨G, T, h1, _⟩ := h.ext x; exact rdParts_any h1 : Calls Tryz.prog 18 #[.pointer (some ⟨p.b, 0, none⟩)] w' fun e w'' => e = .returned (.agg #[.int .i64 W, .int .i64 H, .int .i64 s]) ∧ Ext w' w''))
 have HFd := hide (fun (w' : World) (x : Ext w w') => (by obtain ⟨G, T, h1, _⟩ := h.ext x; exact rdField_any h1 : Calls Tryz.prog 84 #[.pointer (some ⟨p.b, 0, none⟩)] w' (RetField w' W H l)))
 have HGa := hide (fun (w' : World) (x : Ext w w') => (by obtain ⟨G, T, h1, h3⟩ := h.ext x; exact rdGates_any h1 h3.gates : Calls Tryz.prog 29 #[.pointer (some ⟨p.b, 0, none⟩)] w' (RetGates1 w' (gatesA W H s l))))
 have HMR := hide hm
 obtain ⟨k0, hk0⟩ : ∃ z, more.length = z := ⟨_, rfl⟩
 have LM := hide hk0
 rw [hk0] at HMR hml ⊢
 obtain ⟨pb, hpb⟩ : ∃ z, p.b = z := ⟨_, rfl⟩
 have HPB := hide hpb
 rw [hpb] at HP HFd HGa ⊢
 clear h hm hk0 hpb
 obtain ⟨fx, fy⟩ := f
 obtain ⟨tx, ty⟩ := t
 simp only
 go_enter Tryz.func40, Tryz.ntmps40
 go_upto_region 3 with (fail)
 obtain ⟨w1, hw1⟩ : ∃ z, z = (w.alloc (.cells #[.int .i64 fx, .int .i64 fy] 28)).alloc (.cells #[.int .i64 tx, .int .i64 ty] 28) := ⟨_, rfl⟩
 have X1 := hide (show Ext w w1 by rw [hw1]; exact ((Ext.refl _).alloc _).alloc _)
 have F1 := hide (show Blk w1 w.heap.size 28 #[.int .i64 fx, .int .i64 fy] by rw [hw1]; exact (Blk.new_ rfl).over)
 have T1 := hide (show Blk w1 (w.heap.size + 1) 28 #[.int .i64 tx, .int .i64 ty] by rw [hw1]; exact Blk.new_ (by simp))
 rw [← hw1]
 clear hw1
 have c0 := F1.out.at 0 rfl; have c1 := F1.out.at 1 rfl; have cz := F1.out.lt
 have d0 := T1.out.at 0 rfl; have d1 := T1.out.at 1 rfl; have dz := T1.out.lt
 refine seqH_start (S := (fun W => (∀ b o, b < w1.heap.size → W.cell? ⟨b, o, none⟩ = w1.cell? ⟨b, o, none⟩) ∧ Ext w1 W)) [(0, true), (1, true), (3, true), (5, true), (7, true), (8, true), (2, false), (4, false), (6, false), (9, true), (10, false), (11, true)] (by kernel_rfl) (by kernel_rfl) (by kernel_rfl) (by decide) (fun _ _ d _ _ h => by cases d <;> exact h) (by first | with_reducible exact pr_start _ | exact pr_of (by (with_reducible (repeat' (first | exact z_r _ | assumption | refine z_d ?_ | refine z_n ?_ _ | refine z_a ?_ _ | refine z_s ?_ ?_ _ | refine z_t ?_ (by assumption)))); all_goals (simp <;> omega))) (fun hHeld => ?_)
 iterate 6 (apply SeqH.free; (· (simp only [z_0, z_1, z_2]; rfl)); (· first | exact Or.inr ⟨by rfl, rfl⟩ | (refine Or.inl ⟨by rfl, ?_⟩; intro w hSw; (try dsimp only at hSw); go_simp; try with_reducible rfl)); try simp only [Act.put, z_3, z_4, z_5])
 (apply SeqH.step; (· (simp only [z_0, z_1, z_2]; rfl)); intro K hK; go_simp; refine (HFd.out _ (X1.out.trans (by (with_reducible (repeat' (first | exact z_r _ | assumption | refine z_d ?_ | refine z_n ?_ _ | refine z_a ?_ _ | refine z_s ?_ ?_ _ | refine z_t ?_ (by assumption)))); all_goals (simp <;> omega)))).mono ?_; rintro e w3 ⟨fa, fc, rfl, x3, o3⟩; have O3 := hide o3; clear o3; go_wp2_with fail; refine hK.out _ _ (pr_of (by (with_reducible (repeat' (first | exact z_r _ | assumption | refine z_d ?_ | refine z_n ?_ _ | refine z_a ?_ _ | refine z_s ?_ ?_ _ | refine z_t ?_ (by assumption)))); all_goals (simp <;> omega))) (fun hHeld => ?_); clear hK K; try simp only [Act.put, z_3, z_4, z_5])
 (apply SeqH.step; (· (simp only [z_0, z_1, z_2]; rfl)); intro K hK; go_simp; refine (HP.out _ (X1.out.trans (by (with_reducible (repeat' (first | exact z_r _ | assumption | refine z_d ?_ | refine z_n ?_ _ | refine z_a ?_ _ | refine z_s ?_ ?_ _ | refine z_t ?_ (by assumption)))); all_goals (simp <;> omega)))).mono ?_; rintro e w4 ⟨rfl, x4⟩; go_wp2_with fail; refine hK.out _ _ (pr_of (by (with_reducible (repeat' (first | exact z_r _ | assumption | refine z_d ?_ | refine z_n ?_ _ | refine z_a ?_ _ | refine z_s ?_ ?_ _ | refine z_t ?_ (by assumption)))); all_goals (simp <;> omega))) (fun hHeld => ?_); clear hK K; try simp only [Act.put, z_3, z_4, z_5])
 (apply SeqH.step; (· (simp only [z_0, z_1, z_2]; rfl)); intro K hK; go_simp; refine (HGa.out _ (X1.out.trans (by (with_reducible (repeat' (first | exact z_r _ | assumption | refine z_d ?_ | refine z_n ?_ _ | refine z_a ?_ _ | refine z_s ?_ ?_ _ | refine z_t ?_ (by assumption)))); all_goals (simp <;> omega)))).mono ?_; rintro e w5 ⟨v5, rfl, x5, o5⟩; obtain ⟨ga, gc, rfl⟩ := o5.slice; have O5 := hide o5; have O3c := hide ((O3.out.ext x4).ext x5); have X5 := hide (show Ext w1 w5 from (by (with_reducible (repeat' (first | exact z_r _ | assumption | refine z_d ?_ | refine z_n ?_ _ | refine z_a ?_ _ | refine z_s ?_ ?_ _ | refine z_t ?_ (by assumption)))); all_goals (simp <;> omega))); clear o5; go_wp2_with fail; refine hK.out _ _ (pr_of (by (with_reducible (repeat' (first | exact z_r _ | assumption | refine z_d ?_ | refine z_n ?_ _ | refine z_a ?_ _ | refine z_s ?_ ?_ _ | refine z_t ?_ (by assumption)))); all_goals (simp <;> omega))) (fun hHeld => ?_); clear hK K; try simp only [Act.put, z_3, z_4, z_5])
 iterate 1 (apply SeqH.free; (· (simp only [z_0, z_1, z_2]; rfl)); (· first | exact Or.inr ⟨by rfl, rfl⟩ | (refine Or.inl ⟨by rfl, ?_⟩; intro w hSw; (try dsimp only at hSw); go_simp; try with_reducible rfl)); try simp only [Act.put, z_3, z_4, z_5])
 (apply SeqH.step; (· (simp only [z_0, z_1, z_2]; rfl)); intro K hK; go_simp; refine hK.out _ _ (pr_of (by (with_reducible (repeat' (first | exact z_r _ | assumption | refine z_d ?_ | refine z_n ?_ _ | refine z_a ?_ _ | refine z_s ?_ ?_ _ | refine z_t ?_ (by assumption)))); all_goals (simp <;> omega))) (fun hHeld => ?_); clear hK K; try simp only [Act.put, z_3, z_4, z_5])
 iterate 1 (apply SeqH.free; (· (simp only [z_0, z_1, z_2]; rfl)); (· first | exact Or.inr ⟨by rfl, rfl⟩ | (refine Or.inl ⟨by rfl, ?_⟩; intro w hSw; (try dsimp only at hSw); go_simp; try with_reducible rfl)); try simp only [Act.put, z_3, z_4, z_5])
 refine SeqH.done ?_
 obtain ⟨w6, hw6⟩ : ∃ z, z = w5.alloc (.cells #[.pointer (some ⟨pb, 0, none⟩), .int .i64 W, .int .i64 H, .slice fa l.length fc, .int .i64 W, .int .i64 H, .int .i64 s, .slice ga (gatesA W H s l).length gc, .int .i64 fx, .int .i64 fy, .int .i64 tx, .int .i64 ty] 176) := ⟨_, rfl⟩
 have x6 : Ext w5 w6 := by rw [hw6]; exact (Ext.refl _).alloc _
 have B6 := hide (show Blk w6 w5.heap.size 176 #[.pointer (some ⟨pb, 0, none⟩), .int .i64 W, .int .i64 H, .slice fa l.length fc, .int .i64 W, .int .i64 H, .int .i64 s, .slice ga (gatesA W H s l).length gc, .int .i64 fx, .int .i64 fy, .int .i64 tx, .int .i64 ty] by rw [hw6]; exact Blk.new_ rfl)
 have X6 := hide ((X1.out.trans X5.out).trans x6)
 have O3d := hide (O3c.out.ext x6)
 have O5d := hide (O5.out.ext x6)
 have F6 := hide (F1.out.ext (X5.out.trans x6))
 have T6 := hide (T1.out.ext (X5.out.trans x6))
 rw [← hw6]
 obtain ⟨lb, hlb⟩ : ∃ z, w5.heap.size = z := ⟨_, rfl⟩
 rw [hlb] at B6 ⊢
 clear hHeld hw6 x6 x3 x4 x5 O3 O3c O5 c0 c1 cz d0 d1 dz hlb F1 T1 X1 X5
 have c0 := F6.out.at 0 rfl; have c1 := F6.out.at 1 rfl; have cz := F6.out.lt
 have d0 := T6.out.at 0 rfl; have d1 := T6.out.at 1 rfl; have dz := T6.out.lt
 obtain ⟨C, hC⟩ : ∃ z, [(fx, fy), (tx, ty)] ++ more = z := ⟨_, rfl⟩
 have HC := hide (show (fx, fy) :: (tx, ty) :: more = C from hC)
 have HKL := hide hC
 obtain ⟨k1, hk1⟩ : ∃ z, C.length = z := ⟨_, rfl⟩
 have LC := hide hk1
 have hk1b : k1 ≤ 1002 := by rw [← hk1, ← hC, List.length_append, LM.out]; simp; omega
 have hk1p : 2 ≤ k1 := by rw [← hk1, ← hC, List.length_append]; simp
 clear hC hk1
 go_wp2_with (at_builtin; refine wpList_app_rows cellE T_cells rfl _ _ rfl w6.heap.size _ [(fx, fy), (tx, ty)] more rfl (own_lit2 w6 _ _ (fx, fy) (tx, ty) rfl (Nat.le_refl _)) _ rfl (HMR.out.ext (X6.out.trans ((Ext.refl _).alloc _))) (by rw [LM.out]; simp; omega) (by rw [LM.out]; simp; omega) (by simp) ?_; intro v9 w9 o9 t9 l9; obtain ⟨va, vc, rfl⟩ := o9.slice; rw [HKL.out, LC.out] at o9 ⊢; have O9 := hide o9; have X9 := hide (((Ext.refl w6).alloc (.cells #[.int .i64 fx, .int .i64 fy, .int .i64 tx, .int .i64 ty] 28)).of_below (t9.to_below (B := w6.heap.size) (by simp) (fun k hk => by cases hk; exact Nat.le_refl _)) (Nat.le_refl _)); clear o9 t9 l9)
 have B9 := hide (B6.out.ext X9.out)
 have X9w := hide (X6.out.trans X9.out)
 have O3e := hide (O3d.out.ext X9.out)
 have O5e := hide (O5d.out.ext X9.out)
 clear c0 c1 cz d0 d1 dz F6 T6 B6 X6 O3d O5d X9
 go_loopw [32] (fun iv wr => ∃ k : Nat, k ≤ k1 ∧ iv = .int .i64 (k : Int) ∧ ((C.take k).all fun c => inB W H c.1 c.2) = true ∧ Ext w9 wr) (fun iv _ => k1 - (intOf iv).toNat)
 case atStart => exact ⟨0, Nat.zero_le _, rfl, rfl, Ext.refl _⟩
 case round =>
  obtain ⟨k, hk, rfl, hall, hx⟩ := hrel
  have HALL := hide hall
  have XR := hide hx
  clear hall hx
  by_cases hlt : k < k1
  ·have hkl : k < C.length := by rw [LC.out]; exact hlt
   obtain ⟨rb, ro, hre, hrb, q0, q1⟩ := readsC_at (O9.out.reads.ext XR.out) (List.getElem?_eq_getElem hkl)
   subst hre
   have HTK : Hid (((C.take (k + 1)).all fun c => inB W H c.1 c.2) = (((C.take k).all fun c => inB W H c.1 c.2) && inB W H C[k].1 C[k].2)) := hide (by
    rw [List.take_add_one, List.getElem?_eq_getElem hkl, List.all_append]
    simp)
   have HAL := hide (fun (h : inB W H C[k].1 C[k].2 = false) => (show (C.all fun c => inB W H c.1 c.2) = false from by
    rw [Bool.eq_false_iff]
    intro h2
    have := List.all_eq_true.1 h2 C[k] (List.getElem_mem hkl)
    rw [h] at this
    cases this))
   generalize C[k] = pc at *
   obtain ⟨px, py⟩ := pc
   simp only at q0 q1 HTK HAL
   have jk : (k : Int) < (k1 : Int) := by omega
   go_upto_region 7 with (fail)
   obtain ⟨wc, hwc⟩ : ∃ z, z = wr.alloc (.cells #[.int .i64 px, .int .i64 py] 28) := ⟨_, rfl⟩
   have xc : Ext wr wc := by rw [hwc]; exact (Ext.refl _).alloc _
   have BC := hide (show Blk wc wr.heap.size 28 #[.int .i64 px, .int .i64 py] by rw [hwc]; exact Blk.new_ rfl)
   have XC := hide (XR.out.trans xc)
   have BL := hide (B9.out.ext XC.out)
   rw [← hwc]
   clear hwc xc hkl q0 q1
   have c0 := BC.out.at 0 rfl; have c1 := BC.out.at 1 rfl; have cz := BC.out.lt
   have y0 := BL.out.at 0 rfl; have y1 := BL.out.at 1 rfl; have y2 := BL.out.at 2 rfl; have y3 := BL.out.at 3 rfl; have y4 := BL.out.at 4 rfl; have y5 := BL.out.at 5 rfl; have y6 := BL.out.at 6 rfl; have y7 := BL.out.at 7 rfl; have y8 := BL.out.at 8 rfl; have y9 := BL.out.at 9 rfl; have y10 := BL.out.at 10 rfl; have y11 := BL.out.at 11 rfl; have yz := BL.out.lt
   have HIN := hide (fun w' => in_any W H px py w')
   generalize inB W H px py = ib at *
   refine seqH_start (S := (fun W => (∀ b o, b < wc.heap.size → W.cell? ⟨b, o, none⟩ = wc.cell? ⟨b, o, none⟩) ∧ Ext wc W)) [(0, true), (1, true), (2, true), (3, true), (4, true), (5, true), (6, false), (7, true)] (by kernel_rfl) (by kernel_rfl) (by kernel_rfl) (by decide) (fun _ _ d _ _ h => by cases d <;> exact h) (by first | with_reducible exact pr_start _ | exact pr_of (by (with_reducible (repeat' (first | exact z_r _ | assumption | refine z_d ?_ | refine z_n ?_ _ | refine z_a ?_ _ | refine z_s ?_ ?_ _ | refine z_t ?_ (by assumption)))); all_goals (simp <;> omega))) (fun hHeld => ?_)
   iterate 6 (apply SeqH.free; (· (simp only [z_0, z_1, z_2]; rfl)); (· first | exact Or.inr ⟨by rfl, rfl⟩ | (refine Or.inl ⟨by rfl, ?_⟩; intro w hSw; (try dsimp only at hSw); go_simp; try with_reducible rfl)); try simp only [Act.put, z_3, z_4, z_5])
   (apply SeqH.step; (· (simp only [z_0, z_1, z_2]; rfl)); intro K hK; go_simp; refine (HIN.out _).mono ?_; rintro e w10 ⟨rfl, hb10⟩; go_wp2_with fail; refine hK.out _ _ (pr_of (by (with_reducible (repeat' (first | exact z_r _ | assumption | refine z_d ?_ | refine z_n ?_ _ | refine z_a ?_ _ | refine z_s ?_ ?_ _ | refine z_t ?_ (by assumption)))); all_goals (simp <;> omega))) (fun hHeld => ?_); clear hK K; try simp only [Act.put, z_3, z_4, z_5])
   iterate 1 (apply SeqH.free; (· (simp only [z_0, z_1, z_2]; rfl)); (· first | exact Or.inr ⟨by rfl, rfl⟩ | (refine Or.inl ⟨by rfl, ?_⟩; intro w hSw; (try dsimp only at hSw); go_simp; try with_reducible rfl)); try simp only [Act.put, z_3, z_4, z_5])
   refine SeqH.done ?_
   have XE := hide hHeld.2
   clear hHeld
   cases ib
   ·go_wp2_with fail
    refine bodyPost_ret (v := .tuple #[.pointer none, .int .i64 10]) (by simp [results, Tryz.results40, go_sem, *]) rfl ?_
    exact .inl ⟨by rw [HC.out]; exact HAL.out (by first | rfl | trivial), rfl, X9w.out.trans (XC.out.trans XE.out)⟩
   ·go_wp2_with fail
    go_roundw
    case rel => exact ⟨k + 1, by omega, by go_num, by rw [HTK.out, HALL.out]; rfl, XC.out.trans XE.out⟩
    case measure => simp [intOf]; omega
  ·obtain rfl : k1 = k := by omega
   rw [List.take_of_length_le (by rw [LC.out]; exact Nat.le_refl _)] at HALL
   go_wp2_with fail
   refine bodyPost_ret (v := .tuple #[.pointer (some ⟨lb, 0, none⟩), .int .i64 0]) (by simp [results, Tryz.results40, go_sem, *]) rfl ?_
   have hall : (((fx, fy) :: (tx, ty) :: more).all fun c => inB W H c.1 c.2) = true := by rw [HC.out]; exact HALL.out
   refine .inr ⟨hall, lb, fa, fc, ga, gc, rfl, X9w.out.trans XR.out, ?_⟩
   exact {
    world := HW.out.ext (X9w.out.trans XR.out)
    blk := by unfold landCells; rw [HPB.out]; exact B9.out.ext XR.out
    row := (row16_ownG O3e.out).ext XR.out
    gates := (O5e.out.ext XR.out).lower (Nat.zero_le _)
    inF := List.all_eq_true.1 hall (fx, fy) (by simp)
    inT := List.all_eq_true.1 hall (tx, ty) (by simp) }
end Go.Proofs.YtaellcgglldjaaaGreat

