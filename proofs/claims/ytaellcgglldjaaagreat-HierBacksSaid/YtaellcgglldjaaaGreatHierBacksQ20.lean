/- Part of a proof: HierA RefL. -/
import Derived.Test.YtaellcgglldjaaaGreatHierBacksQ10
import Derived.Test.YtaellcgglldjaaaGreatHierBacksQ11
import Derived.Test.YtaellcgglldjaaaGreatHierBacksQ19
import Derived.Test.YtaellcgglldjaaaGreatHierBacksQ09
import Derived.Test.YtaellcgglldjaaaGreatHierBacksQ06
import Derived.Deep.CutBlock
set_option linter.all false
set_option linter.unusedVariables false
set_option linter.unusedSimpArgs false
namespace Go.Proofs.YtaellcgglldjaaaGreat
open Go.RowKit
theorem cmpH_any (p q : Cell) (w : World) : Calls Tryz.prog 152 #[.agg #[.int .i64 p.1, .int .i64 p.2], .agg #[.int .i64 q.1, .int .i64 q.2]] w fun e w' => e = .returned (.int .i64 (cmpC p q)) ∧ Grown w w' := by
 obtain ⟨px, py⟩ := p
 obtain ⟨qx, qy⟩ := q
 have HC := hide (show cmpC (px, py) (qx, qy) = orI (Go.Lib.compareInt py qy) (Go.Lib.compareInt px qx) from rfl)
 rw [HC.out]
 simp only
 go_enter Tryz.func152, Tryz.ntmps152
 go_wp2_with fail
 have G2 := hide (((Grown.refl w).alloc (.cells #[.int .i64 px, .int .i64 py] 28)).alloc (.cells #[.int .i64 qx, .int .i64 qy] 28))
 have S2 : Hid (CellsAt [(⟨w.heap.size, 0, none⟩, .int .i64 px), (⟨w.heap.size, 1, none⟩, .int .i64 py), (⟨w.heap.size + 1, 0, none⟩, .int .i64 qx), (⟨w.heap.size + 1, 1, none⟩, .int .i64 qy)] ((w.alloc (.cells #[.int .i64 px, .int .i64 py] 28)).alloc (.cells #[.int .i64 qx, .int .i64 qy] 28))) := hide ⟨by simp, by simp, by simp, by simp, trivial⟩
 obtain ⟨w2, hw2⟩ : ∃ w2, (w.alloc (.cells #[.int .i64 px, .int .i64 py] 28)).alloc (.cells #[.int .i64 qx, .int .i64 qy] 28) = w2 := ⟨_, rfl⟩
 rw [hw2] at G2 S2 ⊢
 obtain ⟨g, hg⟩ : ∃ g, w.heap.size = g := ⟨_, rfl⟩
 rw [hg] at S2 ⊢
 clear hw2 hg HC
 refine seqH_start (S := (fun X => CellsAt [(⟨g, 0, none⟩, .int .i64 px), (⟨g, 1, none⟩, .int .i64 py), (⟨g + 1, 0, none⟩, .int .i64 qx), (⟨g + 1, 1, none⟩, .int .i64 qy)] X ∧ Grown w X)) [(0, true), (1, true), (2, true), (3, true), (5, true), (6, true), (7, true), (8, true), (4, false), (9, false), (10, false), (11, false), (12, true)] (by kernel_rfl) (by kernel_rfl) (by kernel_rfl) (by decide) (fun _ _ d _ _ h => by cases d <;> exact h) ⟨CellsAt.ext ((Ext.refl _).drew) S2.out, G2.out.drew⟩ (fun hHeld => ?_)
 iterate 8 (apply SeqH.free; (· (simp only [z_0, z_1, z_2]; rfl)); (· first | exact Or.inr ⟨by rfl, rfl⟩ | (refine Or.inl ⟨by rfl, ?_⟩; intro w hSw; (try dsimp only at hSw); simp only [CellsAt] at hSw; go_simp; try with_reducible rfl)); try simp only [Act.put, z_3, z_4, z_5])
 (apply SeqH.step; (· (simp only [z_0, z_1, z_2]; rfl)); intro K hK; go_simp; refine (cmpI_anyG _ _ _).mono ?_; rintro e9 w9 ⟨rfl, rfl⟩; go_wp2_with fail; refine hK.out _ _ (⟨CellsAt.ext z_x S2.out, G2.out.drew⟩) (fun hHeld => ?_); clear hK K; try simp only [Act.put, z_3, z_4, z_5])
 (apply SeqH.step; (· (simp only [z_0, z_1, z_2]; rfl)); intro K hK; go_simp; refine (cmpI_anyG _ _ _).mono ?_; rintro e9 w9 ⟨rfl, rfl⟩; go_wp2_with fail; refine hK.out _ _ (⟨CellsAt.ext z_x S2.out, G2.out.drew⟩) (fun hHeld => ?_); clear hK K; try simp only [Act.put, z_3, z_4, z_5])
 (apply SeqH.step; (· (simp only [z_0, z_1, z_2]; rfl)); intro K hK; go_simp; refine hK.out _ _ (⟨CellsAt.ext z_x S2.out, (G2.out.drew).alloc _⟩) (fun hHeld => ?_); clear hK K; try simp only [Act.put, z_3, z_4, z_5])
 (apply SeqH.step; (· (simp only [z_0, z_1, z_2]; rfl)); intro K hK; go_simp; refine (or2_any (Go.Lib.compareInt py qy) (Go.Lib.compareInt px qx) w2.heap.size _ ?_).mono ?_; (· exact fun k hk => two_at w2 _ _ _ _ rfl k hk); rintro e9 w9 ⟨rfl, rfl⟩; go_wp2_with fail; refine hK.out _ _ (⟨CellsAt.ext z_x S2.out, (G2.out.drew).alloc _⟩) (fun hHeld => ?_); clear hK K; try simp only [Act.put, z_3, z_4, z_5])
 iterate 1 (apply SeqH.free; (· (simp only [z_0, z_1, z_2]; rfl)); (· first | exact Or.inr ⟨by rfl, rfl⟩ | (refine Or.inl ⟨by rfl, ?_⟩; intro w hSw; (try dsimp only at hSw); simp only [CellsAt] at hSw; go_simp; try with_reducible rfl)); try simp only [Act.put, z_3, z_4, z_5])
 refine SeqH.done ?_
 have G := hide hHeld.2
 clear hHeld
 go_wp2
 go_ret
 exact ⟨rfl, G.out⟩
theorem cmpH_lays (blk off size : Nat) (w : World) : Go.Proofs.CmpLays Tryz.prog 152 #[] encC 2 cmpC blk off size w :=
 fun _ _ _ _ x y => cmpH_any x y _
theorem sortH_any {w : World} {v : Value} {base : Nat} {l : List Cell} (h : Own cellE w base 28 v l) (hl : l.length ≤ 1000000) :
  Calls Tryz.prog 133 #[v, .func (.func 152) #[] #[]] w fun e w' => e = .returned (.tuple #[]) ∧ Own cellE w' base 28 v (sortL l) ∧ Touch (fun k => v.ownBlock = some k) w w' := by
 obtain ⟨a, c, rfl⟩ := h.slice
 rcases h.2 with ⟨hv, h0⟩ | ⟨g, cap, cur, hv, hb, hg, _⟩
 ·obtain rfl : l = [] := List.eq_nil_of_length_eq_zero h0
  exact (Go.Proofs.AnyF.slices_SortFunc_none sortC a c _ w).mono fun e w' ⟨he, hw⟩ => ⟨he, by rw [hw, show sortL [] = [] by simp [sortL]]; exact h, by rw [hw]; exact Touch.refl _ _⟩
 ·cases hv
  have eg : ∀ args w, (callFunc 152 args).run Tryz.prog w = .ok (.enter 152 args) w := enters_of Tryz.func152 (by kernel_rfl) rfl
  refine (Go.Proofs.AnyQ.slices_SortFunc_total sortC 2 Tryz.isAgg28 Tryz.sizeOf28 encC (fun _ => rfl) (fun x v hv => by simp [encC] at hv; rcases hv with rfl | rfl <;> rfl) cmpC cmpC_swo 152 #[] g 0 c l.toArray w eg (cmpH_lays _ _ _ _) (own_holdsC h) (lt_of_block hg) (by simp; omega) cmpC_total).mono ?_
  rintro e w' ⟨rfl, n, os, rfl⟩
  have o1 : Own cellE (Go.Sort.ahead w n) base 28 (.slice (some ⟨g, 0, none⟩) l.length c) l := h
  have o2 := own_putC o1 (l' := sortL l) (sortL_perm l).length_eq
  have t1 : Touch (fun k => k = g) w (Go.Sort.putRowK encC 2 (Go.Sort.ahead w n) g 0 (sortL l).toArray) := (touch_aheadI _ w n).trans (touch_putRowI _ _ _ _ _)
  refine ⟨rfl, o2.touch (touch_growI (fun _ => False) _ os) (fun _ _ x => x), (t1.trans (touch_growI _ _ os)).mono (fun k _ hk => by rw [hk]; rfl)⟩
def Ordered (w : World) (base : Nat) (v : Value) (L : List Cell) (e : Ending) (w' : World) : Prop :=
 ∃ v' L', e = .returned v' ∧ Own cellE w' base 28 v' L' ∧ L'.Pairwise ltC ∧ (∀ c, c ∈ L' ↔ c ∈ L) ∧ Touch (fun k => v.ownBlock = some k) w w'
theorem order_any {w : World} {v : Value} {base : Nat} {L : List Cell} (h : Own cellE w base 28 v L) (hl : L.length ≤ 100000) :
  Calls Tryz.prog 97 #[v] w (Ordered w base v L) := by
 have HS := hide (sortH_any h (by omega))
 have HL := hide hl
 obtain ⟨a, c, rfl⟩ := h.slice
 clear h hl
 go_enter Tryz.func97, Tryz.ntmps97
 go_wp2_with fail
 refine (HS.out).mono ?_
 rintro e w1 ⟨rfl, o1, t1⟩
 have HC := hide (compact_any (by rw [(sortL_perm L).length_eq]; exact HL.out) (sortL_sorted L) o1)
 have T1 := hide t1
 clear o1 t1
 go_wp2_with fail
 refine (HC.out).mono ?_
 rintro e w2 ⟨v', L', rfl, o2, hs, hm, t2⟩
 have O2 := hide o2
 have HSS := hide hs
 have HM := hide hm
 have T2 := hide t2
 obtain ⟨a', c', rfl⟩ := o2.slice
 clear o2 hs hm t2
 go_wp2_with fail
 go_ret
 exact ⟨_, L', rfl, O2.out, HSS.out, fun c => (HM.out c).trans (sortL_perm L).mem_iff, T1.out.trans T2.out⟩
def landCells (pb : Nat) (W H s : Int) (fa : Option Addr) (n fc : Nat) (gv : Value) (f t : Cell) : Array Value :=
 #[.pointer (some ⟨pb, 0, none⟩), .int .i64 W, .int .i64 H, .slice fa n fc, .int .i64 W, .int .i64 H, .int .i64 s, gv, .int .i64 f.1, .int .i64 f.2, .int .i64 t.1, .int .i64 t.2]
structure HLand (w : World) (lb : Nat) (p : Spot) (R : Nat → Prop) (W H s : Int) (l : List Int) (fa : Option Addr) (fc : Nat) (ga : Option Addr) (gc : Nat) (f t : Cell) : Prop where
 world : WorldAt w p R W H s l
 blk : Blk w lb 176 (landCells p.b W H s fa l.length fc (.slice ga (gatesA W H s l).length gc) f t)
 row : Row16 w fa l
 gates : Own pairE w 0 160 (.slice ga (gatesA W H s l).length gc) (gatesA W H s l)
 inF : inB W H f.1 f.2 = true
 inT : inB W H t.1 t.2 = true
theorem HLand.ext {w w' : World} {lb : Nat} {p : Spot} {R : Nat → Prop} {W H s : Int} {l : List Int} {fa : Option Addr} {fc : Nat} {ga : Option Addr} {gc : Nat} {f t : Cell} (h : HLand w lb p R W H s l fa fc ga gc f t) (x : Ext w w') : HLand w' lb p R W H s l fa fc ga gc f t where
 world := h.world.ext x
 blk := h.blk.ext x
 row := h.row.ext x
 gates := h.gates.ext x
 inF := h.inF
 inT := h.inT
theorem HLand.good {w : World} {lb : Nat} {p : Spot} {R : Nat → Prop} {W H s : Int} {l : List Int} {fa : Option Addr} {fc : Nat} {ga : Option Addr} {gc : Nat} {f t : Cell} (h : HLand w lb p R W H s l fa fc ga gc f t) : Good W H s l := by
 obtain ⟨G, T, h1, _⟩ := h.world; exact h1.good
section
variable {w : World} {lb : Nat} {p : Spot} {R : Nat → Prop} {W H s : Int} {l : List Int} {fa : Option Addr} {fc : Nat} {ga : Option Addr} {gc : Nat} {f t : Cell}
theorem number_any (h : HLand w lb p R W H s l fa fc ga gc f t) {c : Cell} (hc : inB W H c.1 c.2 = true) :
  Calls Tryz.prog 85 #[.pointer (some ⟨lb, 0, none⟩), .agg #[.int .i64 c.1, .int .i64 c.2]] w fun e w' => e = .returned (.int .i64 (idxN W c : Nat)) ∧ Ext w w' := by
 have B := hide h.blk
 unfold landCells at B
 have hb := inB_true.1 hc
 have hix : ((idxN W (c.1, c.2) : Nat) : Int) = c.2 * W + c.1 := idx_int (by omega) (by omega) (by omega)
 have hpm : 0 ≤ c.2 * W ∧ c.2 * W ≤ 4294967296 := mul_bd (a := c.2) (b := W) (A := 65536) (B := 65536) (by omega) (by omega) (by omega) (by omega)
 obtain ⟨x, y⟩ := c
 simp only at hb hix hpm
 have k1 : IntKind.i64.wrap (y * W) = y * W := IntWalk.i64_in _ (by omega)
 have k2 : IntKind.i64.wrap (y * W + x) = ((idxN W (x, y) : Nat) : Int) := by rw [IntWalk.i64_in _ (by omega)]; exact hix.symm
 obtain ⟨n, hn⟩ : ∃ z, l.length = z := ⟨_, rfl⟩
 obtain ⟨m, hm⟩ : ∃ z, (gatesA W H s l).length = z := ⟨_, rfl⟩
 rw [hn, hm] at B
 have b0 := B.out.at 0 rfl; have b1 := B.out.at 1 rfl; have b2 := B.out.at 2 rfl; have b3 := B.out.at 3 rfl; have bz := B.out.lt
 clear h hc hb hix hpm hn hm
 go_enter Tryz.func85, Tryz.ntmps85
 go_wp2_with fail
 go_quiet (fail)
 go_wp2_with fail
 go_ret
 exact ⟨rfl, z_x⟩
theorem cost_any (h : HLand w lb p R W H s l fa fc ga gc f t) {c : Cell} (hc : inB W H c.1 c.2 = true) :
  Calls Tryz.prog 41 #[.pointer (some ⟨lb, 0, none⟩), .agg #[.int .i64 c.1, .int .i64 c.2]] w fun e w' => e = .returned (.int .u64 (costI l W c)) ∧ Ext w w' := by
 have HNB := hide (fun (w' : World) (x : Ext w w') => number_any (h.ext x) hc)
 have B := hide h.blk
 unfold landCells at B
 have hlen : (l.length : Int) = W * H := (checkE_ok.1 h.good.ok).2
 have hik := idx_len hlen hc
 obtain ⟨rb, ro, hfa, hrb, hrc⟩ := h.row (by omega)
 have d0 := hrc _ hik
 have hcst : l[idxN W c] = costI l W c := by
  unfold costI
  have hb := inB_true.1 hc
  have hix : ((idxN W (c.1, c.2) : Nat) : Int) = c.2 * W + c.1 := idx_int (by omega) (by omega) (by omega)
  have e : (c.2 * W + c.1).toNat = idxN W c := by
   have : idxN W c = idxN W (c.1, c.2) := rfl
   omega
  rw [e, List.getD_eq_getElem?_getD, List.getElem?_eq_getElem hik]
  rfl
 rw [hcst] at d0
 have hu := h.good.u16 _ (List.getElem_mem hik)
 rw [hcst] at hu
 subst hfa
 obtain ⟨x, y⟩ := c
 have hin : (idxN W (x, y) : Int) < (l.length : Int) := by omega
 have HIK := hide hik
 simp only at HNB
 generalize idxN W (x, y) = ix at *
 generalize costI l W (x, y) = cv at *
 have k1 : IntKind.u64.wrap cv = cv := by rw [IntKind.wrap_u64]; omega
 obtain ⟨n, hn⟩ : ∃ z, l.length = z := ⟨_, rfl⟩
 obtain ⟨m, hm⟩ : ∃ z, (gatesA W H s l).length = z := ⟨_, rfl⟩
 rw [hn, hm] at B
 rw [hn] at hin
 have b0 := B.out.at 0 rfl; have b1 := B.out.at 1 rfl; have b2 := B.out.at 2 rfl; have b3 := B.out.at 3 rfl; have bz := B.out.lt
 clear h hc hlen hik hrc hcst hu hn hm HIK
 go_enter Tryz.func41, Tryz.ntmps41
 go_wp2_with fail
 obtain ⟨w1, hw1⟩ : ∃ z, z = w.alloc (.cells #[.int .i64 x, .int .i64 y] 28) := ⟨_, rfl⟩
 have x1 : Ext w w1 := by rw [hw1]; exact (Ext.refl _).alloc _
 have C1 := hide (show Blk w1 w.heap.size 28 #[.int .i64 x, .int .i64 y] by rw [hw1]; exact Blk.new_ rfl)
 have B1 := hide (B.out.ext x1)
 have d1 := (x1.cell (p := ⟨rb, ro + ix, none⟩) hrb).trans d0
 have z1 := x1.size
 have hrb1 : rb < w1.heap.size := by omega
 rw [← hw1]
 clear hw1 b0 b1 b2 b3 bz d0
 have c0 := C1.out.at 0 rfl; have c1 := C1.out.at 1 rfl; have cz := C1.out.lt
 have b0 := B1.out.at 0 rfl; have b1 := B1.out.at 1 rfl; have b2 := B1.out.at 2 rfl; have b3 := B1.out.at 3 rfl; have bz := B1.out.lt
 refine seqH_start (S := (fun W => (∀ b o, b < w1.heap.size → W.cell? ⟨b, o, none⟩ = w1.cell? ⟨b, o, none⟩) ∧ Ext w1 W)) [(0, true), (1, true), (2, true), (3, true), (4, true), (5, true), (6, true), (7, false), (8, true), (9, true), (10, true), (11, true)] (by kernel_rfl) (by kernel_rfl) (by kernel_rfl) (by decide) (fun _ _ d _ _ h => by cases d <;> exact h) (by first | with_reducible exact pr_start _ | exact pr_of z_x) (fun hHeld => ?_)
 iterate 7 (apply SeqH.free; (· (simp only [z_0, z_1, z_2]; rfl)); (· first | exact Or.inr ⟨by rfl, rfl⟩ | (refine Or.inl ⟨by rfl, ?_⟩; intro w hSw; (try dsimp only at hSw); go_simp; try with_reducible rfl)); try simp only [Act.put, z_3, z_4, z_5])
 (apply SeqH.step; (· (simp only [z_0, z_1, z_2]; rfl)); intro K hK; go_simp; refine (HNB.out _ (x1.trans z_x)).mono ?_; rintro e w2 ⟨rfl, hb2⟩; go_wp2_with fail; refine hK.out _ _ (pr_of z_x) (fun hHeld => ?_); clear hK K; try simp only [Act.put, z_3, z_4, z_5])
 iterate 4 (apply SeqH.free; (· (simp only [z_0, z_1, z_2]; rfl)); (· first | exact Or.inr ⟨by rfl, rfl⟩ | (refine Or.inl ⟨by rfl, ?_⟩; intro w hSw; (try dsimp only at hSw); go_simp; try with_reducible rfl)); try simp only [Act.put, z_3, z_4, z_5])
 refine SeqH.done ?_
 have XE := hide hHeld.2
 clear hHeld
 go_wp2_with fail
 go_ret
 exact ⟨rfl, x1.trans XE.out⟩
end
end Go.Proofs.YtaellcgglldjaaaGreat

namespace Go.Proofs.YtaellcgglldjaaaGreat
open Go.RowKit
theorem readsC_at {w : World} {a : Option Addr} {n c : Nat} {l : List Cell} {k : Nat} {q : Cell} (h : Reads cellE w (.slice a n c) l) (hk : l[k]? = some q) : ∃ b off, a = some ⟨b, off, none⟩ ∧ b < w.heap.size ∧ w.cell? ⟨b, off + k * 2, none⟩ = some (.int .i64 q.1) ∧ w.cell? ⟨b, off + k * 2 + 1, none⟩ = some (.int .i64 q.2) := by
 rcases h with ⟨_, rfl⟩ | ⟨b, off, cap, hv, hb, hc⟩
 ·simp at hk
 ·cases hv
  refine ⟨b, off, rfl, hb, ?_, ?_⟩
  ·have := hc k q hk 0 _ rfl
   simpa [cellE] using this
  ·have := hc k q hk 1 _ rfl
   simpa [cellE, Nat.add_assoc] using this
end Go.Proofs.YtaellcgglldjaaaGreat

