/- Part of a proof: HierB HierD. -/
import Derived.Test.YtaellcgglldjaaaGreatHierBacksQ20
import Derived.Test.YtaellcgglldjaaaGreatHierBacksQ18
import Derived.Test.YtaellcgglldjaaaGreatHierBacksQ17
set_option linter.all false
set_option linter.unusedVariables false
set_option linter.unusedSimpArgs false
namespace Go.Proofs.YtaellcgglldjaaaGreat
open Go.RowKit
section
variable {w : World} {lb : Nat} {p : Spot} {R : Nat → Prop} {W H s : Int} {l : List Int} {fa : Option Addr} {fc : Nat} {ga : Option Addr} {gc : Nat} {f t : Cell}
def RetNodes (w : World) (L : List Cell) (e : Ending) (w' : World) : Prop := ∃ v, e = .returned v ∧ Ext w w' ∧ Own cellE w' w.heap.size 28 v L
set_option maxRecDepth 100000 in
set_option maxHeartbeats 1000000 in
theorem nodesM_any (h : HLand w lb p R W H s l fa fc ga gc f t) (hgl : (gatesA W H s l).length ≤ 45000) :
  Calls Tryz.prog 51 #[.pointer (some ⟨lb, 0, none⟩)] w (RetNodes w (nodesL W H (gatesA W H s l) f t)) := by
 have HOF : Hid (∀ L : List Cell, L.Pairwise ltC → (∀ c, c ∈ L ↔ c ∈ f :: t :: flatG (gatesA W H s l)) → L = nodesL W H (gatesA W H s l) f t) := hide (fun L hs hm => nodesL_of hs hm h.inF h.inT (fun c hc => flat_in h.good.right hc))
 have B := hide h.blk
 unfold landCells at B
 have HGO := hide h.gates
 generalize gatesA W H s l = G at *
 obtain ⟨n, hn⟩ : ∃ z, l.length = z := ⟨_, rfl⟩
 obtain ⟨m, hm⟩ : ∃ z, G.length = z := ⟨_, rfl⟩
 have HM := hide hm
 rw [hn, hm] at B
 rw [hm] at HGO hgl
 obtain ⟨fx, fy⟩ := f
 obtain ⟨tx, ty⟩ := t
 simp only at B
 have b0 := B.out.at 0 rfl; have b1 := B.out.at 1 rfl; have b2 := B.out.at 2 rfl; have b3 := B.out.at 3 rfl; have b4 := B.out.at 4 rfl; have b5 := B.out.at 5 rfl; have b6 := B.out.at 6 rfl; have b7 := B.out.at 7 rfl; have b8 := B.out.at 8 rfl; have b9 := B.out.at 9 rfl; have b10 := B.out.at 10 rfl; have b11 := B.out.at 11 rfl; have bz := B.out.lt
 clear h hn hm
 go_enter Tryz.func51, Tryz.ntmps51
 go_upto_region 1 with (fail)
 refine seqH_start (S := (fun W => (∀ b o, b < w.heap.size → W.cell? ⟨b, o, none⟩ = w.cell? ⟨b, o, none⟩) ∧ Ext w W)) [(0, true), (1, true), (2, true), (3, true), (4, true), (5, true), (6, true), (7, true), (8, false), (9, true)] (by kernel_rfl) (by kernel_rfl) (by kernel_rfl) (by decide) (fun _ _ d _ _ h => by cases d <;> exact h) (by first | with_reducible exact pr_start _ | exact pr_of z_x) (fun hHeld => ?_)
 iterate 8 (apply SeqH.free; (· (simp only [z_0, z_1, z_2]; rfl)); (· first | exact Or.inr ⟨by rfl, rfl⟩ | (refine Or.inl ⟨by rfl, ?_⟩; intro w hSw; (try dsimp only at hSw); go_simp; try with_reducible rfl)); try simp only [Act.put, z_3, z_4, z_5])
 (apply SeqH.step; (· (simp only [z_0, z_1, z_2]; rfl)); intro K hK; go_simp; refine hK.out _ _ (pr_of z_x) (fun hHeld => ?_); clear hK K; try simp only [Act.put, z_3, z_4, z_5])
 iterate 1 (apply SeqH.free; (· (simp only [z_0, z_1, z_2]; rfl)); (· first | exact Or.inr ⟨by rfl, rfl⟩ | (refine Or.inl ⟨by rfl, ?_⟩; intro w hSw; (try dsimp only at hSw); go_simp; try with_reducible rfl)); try simp only [Act.put, z_3, z_4, z_5])
 refine SeqH.done ?_
 have XE := hide hHeld.2
 clear hHeld b0 b1 b2 b3 b4 b5 b6 b7 b8 b9 b10 b11 bz
 obtain ⟨w1, hw1⟩ : ∃ z, z = (w.alloc (.cells #[.int .i64 fx, .int .i64 fy, .int .i64 tx, .int .i64 ty] 28)).drew := ⟨_, rfl⟩
 have O1 := hide (show Own cellE w1 w.heap.size 28 (.slice (some ⟨w.heap.size, 0, none⟩) 2 2) [(fx, fy), (tx, ty)] by
  rw [hw1]
  exact ⟨by simp [cellE], .inr ⟨w.heap.size, 2, #[.int .i64 fx, .int .i64 fy, .int .i64 tx, .int .i64 ty], rfl, Nat.le_refl _, heap_alloc_new w _, by simp, by decide, by simp [cellE], by simp [cellE]⟩⟩)
 have X1 := hide (show Ext w w1 by rw [hw1]; exact ((Ext.refl _).alloc _).drew)
 have B1 := hide (B.out.ext X1.out)
 rw [← hw1]
 clear hw1 XE
 have b0 := B1.out.at 0 rfl; have b1 := B1.out.at 1 rfl; have b2 := B1.out.at 2 rfl; have b3 := B1.out.at 3 rfl; have b4 := B1.out.at 4 rfl; have b5 := B1.out.at 5 rfl; have b6 := B1.out.at 6 rfl; have b7 := B1.out.at 7 rfl; have b8 := B1.out.at 8 rfl; have b9 := B1.out.at 9 rfl; have b10 := B1.out.at 10 rfl; have b11 := B1.out.at 11 rfl; have bz := B1.out.lt
 go_wp2_with fail
 clear b0 b1 b2 b3 b4 b5 b6 b7 b8 b9 b10 b11 bz
 go_loopw [3, 20] (fun ov iv wr => ∃ k : Nat, k ≤ m ∧ iv = .int .i64 (k : Int) ∧ Own cellE wr w.heap.size 28 ov ((fx, fy) :: (tx, ty) :: flatG (G.take k)) ∧ Ext w wr) (fun _ iv _ => m - (intOf iv).toNat)
 case atStart => exact ⟨0, Nat.zero_le _, rfl, O1.out, X1.out⟩
 case round =>
  obtain ⟨k, hk, rfl, ho, hx⟩ := hrel
  have OR := hide ho
  have XR := hide hx
  clear ho hx
  by_cases hlt : k < m
  ·obtain ⟨g, hg⟩ : ∃ g, G[k]? = some g := ⟨_, List.getElem?_eq_getElem (by rw [HM.out]; exact hlt)⟩
   obtain ⟨gb, rfl, hgb, g0, g1, g2, g3⟩ := own_gate_at (HGO.out.ext XR.out) hg
   have HTK := hide (flatG_take hg)
   have HFL := hide (show (flatG (G.take k)).length ≤ 2 * k by rw [flatG_len, List.length_take]; omega)
   obtain ⟨⟨ax, ay⟩, ⟨bx, byy⟩⟩ := g
   simp only at g0 g1 g2 g3 HTK
   have jk : (k : Int) < (m : Int) := by omega
   obtain ⟨oa, oc, hov⟩ := OR.out.slice
   subst hov
   clear hg
   go_upto_region 5 with (fail)
   obtain ⟨wa, hwa⟩ : ∃ z, z = wr.alloc (.cells #[.int .i64 ax, .int .i64 ay, .int .i64 bx, .int .i64 byy] 160) := ⟨_, rfl⟩
   have xa : Ext wr wa := by rw [hwa]; exact (Ext.refl _).alloc _
   have GA := hide (show Blk wa wr.heap.size 160 #[.int .i64 ax, .int .i64 ay, .int .i64 bx, .int .i64 byy] by rw [hwa]; exact Blk.new_ rfl)
   have XA := hide (XR.out.trans xa)
   have OA := hide (OR.out.ext (xa.alloc (.cells #[.int .i64 ax, .int .i64 ay, .int .i64 bx, .int .i64 byy] 28)))
   have RA := hide (reads_lit cellE wa #[.int .i64 ax, .int .i64 ay, .int .i64 bx, .int .i64 byy] 28 [(ax, ay), (bx, byy)] rfl wa.heap.size 2 2 rfl rfl)
   have zA := XA.out.size
   have HL2 : Hid (((fx, fy) :: (tx, ty) :: flatG (G.take k)).length + [(ax, ay), (bx, byy)].length ≤ 100000) := hide (by have := HFL.out; simp; omega)
   rw [← hwa]
   clear hwa xa g0 g1 g2 g3 hgb
   have g0 := GA.out.at 0 rfl; have g1 := GA.out.at 1 rfl; have g2 := GA.out.at 2 rfl; have g3 := GA.out.at 3 rfl; have gz := GA.out.lt
   go_wp2_with (at_builtin; refine wpList_app_rows cellE T_cells rfl _ _ rfl w.heap.size _ _ [(ax, ay), (bx, byy)] rfl OA.out _ rfl RA.out (by have := HL2.out; omega) (by have := HL2.out; omega) (by simp; omega) ?_; intro v9 w9 o9 t9 l9; have O9 := hide o9; have X9 := hide ((XA.out.alloc (.cells #[.int .i64 ax, .int .i64 ay, .int .i64 bx, .int .i64 byy] 28)).of_below (t9.to_below (B := w.heap.size) (by simp; omega) (fun k hk => (own_lt OR.out hk).1)) (Nat.le_refl _)); clear o9 t9 l9)
   go_roundw
   case rel => exact ⟨k + 1, by omega, by go_num, by rw [HTK.out]; have h := O9.out; simpa using h, X9.out⟩
   case measure => simp [intOf]; omega
  ·obtain rfl : m = k := by omega
   rw [List.take_of_length_le (show G.length ≤ m by rw [HM.out]; exact Nat.le_refl _)] at OR
   have HORD := hide (order_any OR.out (by have := flatG_len G; have := HM.out; simp; omega))
   obtain ⟨oa, oc, hov⟩ := OR.out.slice
   subst hov
   go_wp2_with fail
   refine (HORD.out).mono ?_
   rintro e w2 ⟨v', L', rfl, o2, hs, hm2, t2⟩
   have hL := HOF.out L' hs hm2
   subst hL
   have O2 := hide o2
   have X2 := hide (XR.out.of_below (t2.to_below (B := w.heap.size) XR.out.size (fun k hk => (own_lt OR.out hk).1)) (Nat.le_refl _))
   obtain ⟨oa2, oc2, rfl⟩ := o2.slice
   clear o2 hs hm2 t2 HORD
   go_wp2_with fail
   go_ret
   exact ⟨_, rfl, X2.out, O2.out⟩
end
theorem own_lit2 (w : World) (base b : Nat) (f t : Cell) (hb : b = w.heap.size) (hbase : base ≤ b) : Own cellE (w.alloc (.cells #[.int .i64 f.1, .int .i64 f.2, .int .i64 t.1, .int .i64 t.2] 28)) base 28 (.slice (some ⟨b, 0, none⟩) 2 2) [f, t] := by
 subst hb
 exact ⟨by simp [cellE], .inr ⟨w.heap.size, 2, #[.int .i64 f.1, .int .i64 f.2, .int .i64 t.1, .int .i64 t.2], rfl, hbase, heap_alloc_new w _, by simp, by decide, by simp [cellE], by simp [cellE]⟩⟩
def Looked (w : World) (p : Spot) (R : Nat → Prop) (W H s : Int) (l : List Int) (f t : Cell) (more : List Cell) (e : Ending) (w' : World) : Prop :=
 ((((f :: t :: more).all fun c => inB W H c.1 c.2) = false) ∧ e = .returned (.tuple #[.pointer none, .int .i64 10]) ∧ Ext w w') ∨
 ((((f :: t :: more).all fun c => inB W H c.1 c.2) = true) ∧ ∃ lb fa fc ga gc, e = .returned (.tuple #[.pointer (some ⟨lb, 0, none⟩), .int .i64 0]) ∧ Ext w w' ∧ HLand w' lb p R W H s l fa fc ga gc f t)
set_option maxRecDepth 100000 in
set_option maxHeartbeats 1000000 in
theorem look_any {w : World} {p : Spot} {R : Nat → Prop} {W H s : Int} {l : List Int} (h : WorldAt w p R W H s l) (f t : Cell) (more : List Cell) (ma : Option Addr) (mc : Nat) (hm : Reads cellE w (.slice ma more.length mc) more) (hml : more.length ≤ 1000) :
  Calls Tryz.prog 40 #[.pointer (some ⟨p.b, 0, none⟩), .agg #[.int .i64 f.1, .int .i64 f.2], .agg #[.int .i64 t.1, .int .i64 t.2], .slice ma more.length mc] w (Looked w p R W H s l f t more) := by
 have HW := hide h
 have HP := hide (fun (w' : World) (x : Ext w w') => (by obtain ⟨G, T, h1, _⟩ := h.ext x; exact rdParts_any h1 : Calls Tryz.prog 18 #[.pointer (some ⟨p.b, 0, none⟩)] w' fun e w'' => e = .returned (.agg #[.int .i64 W, .int .i64 H, .int .i64 s]) ∧ Ext w' w''))
 have HFd := hide (fun (w' : World) (x : Ext w w') => (by obtain ⟨G, T, h1, _⟩ := h.ext x; exact rdField_any h1 : Calls Tryz.prog 84 #[.pointer (some ⟨p.b, 0, none⟩)] w' (RetField w' W H l)))
 have HGa := hide (fun (w' : World) (x : Ext w w') => (by obtain ⟨G, T, h1, h3⟩ := h.ext x; exact rdGates_any h1 h3.gates : Calls Tryz.prog 29 #[.pointer (some ⟨p.b, 0, none⟩)] w' (RetGates1 w' (gatesA W H s l))))
 have HMR := hide hm
 obtain ⟨k0, hk0⟩ : ∃ z, more.length = z := ⟨_, rfl⟩
 have LM := hide hk0
 rw [hk0] at HMR hml ⊢
 obtain ⟨pb, hpb⟩ : ∃ z, p.b = z := ⟨_, rfl⟩
 have HPB := hide hpb
 rw [hpb] at HP HFd HGa ⊢
 clear h hm hk0 hpb
 obtain ⟨fx, fy⟩ := f
 obtain ⟨tx, ty⟩ := t
 simp only
 go_enter Tryz.func40, Tryz.ntmps40
 go_upto_region 3 with (fail)
 obtain ⟨w1, hw1⟩ : ∃ z, z = (w.alloc (.cells #[.int .i64 fx, .int .i64 fy] 28)).alloc (.cells #[.int .i64 tx, .int .i64 ty] 28) := ⟨_, rfl⟩
 have X1 := hide (show Ext w w1 by rw [hw1]; exact ((Ext.refl _).alloc _).alloc _)
 have F1 := hide (show Blk w1 w.heap.size 28 #[.int .i64 fx, .int .i64 fy] by rw [hw1]; exact (Blk.new_ rfl).over)
 have T1 := hide (show Blk w1 (w.heap.size + 1) 28 #[.int .i64 tx, .int .i64 ty] by rw [hw1]; exact Blk.new_ (by simp))
 rw [← hw1]
 clear hw1
 have c0 := F1.out.at 0 rfl; have c1 := F1.out.at 1 rfl; have cz := F1.out.lt
 have d0 := T1.out.at 0 rfl; have d1 := T1.out.at 1 rfl; have dz := T1.out.lt
 refine seqH_start (S := (fun W => (∀ b o, b < w1.heap.size → W.cell? ⟨b, o, none⟩ = w1.cell? ⟨b, o, none⟩) ∧ Ext w1 W)) [(0, true), (1, true), (3, true), (5, true), (7, true), (8, true), (2, false), (4, false), (6, false), (9, true), (10, false), (11, true)] (by kernel_rfl) (by kernel_rfl) (by kernel_rfl) (by decide) (fun _ _ d _ _ h => by cases d <;> exact h) (by first | with_reducible exact pr_start _ | exact pr_of z_x) (fun hHeld => ?_)
 iterate 6 (apply SeqH.free; (· (simp only [z_0, z_1, z_2]; rfl)); (· first | exact Or.inr ⟨by rfl, rfl⟩ | (refine Or.inl ⟨by rfl, ?_⟩; intro w hSw; (try dsimp only at hSw); go_simp; try with_reducible rfl)); try simp only [Act.put, z_3, z_4, z_5])
 (apply SeqH.step; (· (simp only [z_0, z_1, z_2]; rfl)); intro K hK; go_simp; refine (HFd.out _ (X1.out.trans z_x)).mono ?_; rintro e w3 ⟨fa, fc, rfl, x3, o3⟩; have O3 := hide o3; clear o3; go_wp2_with fail; refine hK.out _ _ (pr_of z_x) (fun hHeld => ?_); clear hK K; try simp only [Act.put, z_3, z_4, z_5])
 (apply SeqH.step; (· (simp only [z_0, z_1, z_2]; rfl)); intro K hK; go_simp; refine (HP.out _ (X1.out.trans z_x)).mono ?_; rintro e w4 ⟨rfl, x4⟩; go_wp2_with fail; refine hK.out _ _ (pr_of z_x) (fun hHeld => ?_); clear hK K; try simp only [Act.put, z_3, z_4, z_5])
 (apply SeqH.step; (· (simp only [z_0, z_1, z_2]; rfl)); intro K hK; go_simp; refine (HGa.out _ (X1.out.trans z_x)).mono ?_; rintro e w5 ⟨v5, rfl, x5, o5⟩; obtain ⟨ga, gc, rfl⟩ := o5.slice; have O5 := hide o5; have O3c := hide ((O3.out.ext x4).ext x5); have X5 := hide (show Ext w1 w5 from z_x); clear o5; go_wp2_with fail; refine hK.out _ _ (pr_of z_x) (fun hHeld => ?_); clear hK K; try simp only [Act.put, z_3, z_4, z_5])
 iterate 1 (apply SeqH.free; (· (simp only [z_0, z_1, z_2]; rfl)); (· first | exact Or.inr ⟨by rfl, rfl⟩ | (refine Or.inl ⟨by rfl, ?_⟩; intro w hSw; (try dsimp only at hSw); go_simp; try with_reducible rfl)); try simp only [Act.put, z_3, z_4, z_5])
 (apply SeqH.step; (· (simp only [z_0, z_1, z_2]; rfl)); intro K hK; go_simp; refine hK.out _ _ (pr_of z_x) (fun hHeld => ?_); clear hK K; try simp only [Act.put, z_3, z_4, z_5])
 iterate 1 (apply SeqH.free; (· (simp only [z_0, z_1, z_2]; rfl)); (· first | exact Or.inr ⟨by rfl, rfl⟩ | (refine Or.inl ⟨by rfl, ?_⟩; intro w hSw; (try dsimp only at hSw); go_simp; try with_reducible rfl)); try simp only [Act.put, z_3, z_4, z_5])
 refine SeqH.done ?_
 obtain ⟨w6, hw6⟩ : ∃ z, z = w5.alloc (.cells #[.pointer (some ⟨pb, 0, none⟩), .int .i64 W, .int .i64 H, .slice fa l.length fc, .int .i64 W, .int .i64 H, .int .i64 s, .slice ga (gatesA W H s l).length gc, .int .i64 fx, .int .i64 fy, .int .i64 tx, .int .i64 ty] 176) := ⟨_, rfl⟩
 have x6 : Ext w5 w6 := by rw [hw6]; exact (Ext.refl _).alloc _
 have B6 := hide (show Blk w6 w5.heap.size 176 #[.pointer (some ⟨pb, 0, none⟩), .int .i64 W, .int .i64 H, .slice fa l.length fc, .int .i64 W, .int .i64 H, .int .i64 s, .slice ga (gatesA W H s l).length gc, .int .i64 fx, .int .i64 fy, .int .i64 tx, .int .i64 ty] by rw [hw6]; exact Blk.new_ rfl)
 have X6 := hide ((X1.out.trans X5.out).trans x6)
 have O3d := hide (O3c.out.ext x6)
 have O5d := hide (O5.out.ext x6)
 have F6 := hide (F1.out.ext (X5.out.trans x6))
 have T6 := hide (T1.out.ext (X5.out.trans x6))
 rw [← hw6]
 obtain ⟨lb, hlb⟩ : ∃ z, w5.heap.size = z := ⟨_, rfl⟩
 rw [hlb] at B6 ⊢
 clear hHeld hw6 x6 x3 x4 x5 O3 O3c O5 c0 c1 cz d0 d1 dz hlb F1 T1 X1 X5
 have c0 := F6.out.at 0 rfl; have c1 := F6.out.at 1 rfl; have cz := F6.out.lt
 have d0 := T6.out.at 0 rfl; have d1 := T6.out.at 1 rfl; have dz := T6.out.lt
 obtain ⟨C, hC⟩ : ∃ z, [(fx, fy), (tx, ty)] ++ more = z := ⟨_, rfl⟩
 have HC := hide (show (fx, fy) :: (tx, ty) :: more = C from hC)
 have HKL := hide hC
 obtain ⟨k1, hk1⟩ : ∃ z, C.length = z := ⟨_, rfl⟩
 have LC := hide hk1
 have hk1b : k1 ≤ 1002 := by rw [← hk1, ← hC, List.length_append, LM.out]; simp; omega
 have hk1p : 2 ≤ k1 := by rw [← hk1, ← hC, List.length_append]; simp
 clear hC hk1
 go_wp2_with (at_builtin; refine wpList_app_rows cellE T_cells rfl _ _ rfl w6.heap.size _ [(fx, fy), (tx, ty)] more rfl (own_lit2 w6 _ _ (fx, fy) (tx, ty) rfl (Nat.le_refl _)) _ rfl (HMR.out.ext (X6.out.trans ((Ext.refl _).alloc _))) (by rw [LM.out]; simp; omega) (by rw [LM.out]; simp; omega) (by simp) ?_; intro v9 w9 o9 t9 l9; obtain ⟨va, vc, rfl⟩ := o9.slice; rw [HKL.out, LC.out] at o9 ⊢; have O9 := hide o9; have X9 := hide (((Ext.refl w6).alloc (.cells #[.int .i64 fx, .int .i64 fy, .int .i64 tx, .int .i64 ty] 28)).of_below (t9.to_below (B := w6.heap.size) (by simp) (fun k hk => by cases hk; exact Nat.le_refl _)) (Nat.le_refl _)); clear o9 t9 l9)
 have B9 := hide (B6.out.ext X9.out)
 have X9w := hide (X6.out.trans X9.out)
 have O3e := hide (O3d.out.ext X9.out)
 have O5e := hide (O5d.out.ext X9.out)
 clear c0 c1 cz d0 d1 dz F6 T6 B6 X6 O3d O5d X9
 go_loopw [32] (fun iv wr => ∃ k : Nat, k ≤ k1 ∧ iv = .int .i64 (k : Int) ∧ ((C.take k).all fun c => inB W H c.1 c.2) = true ∧ Ext w9 wr) (fun iv _ => k1 - (intOf iv).toNat)
 case atStart => exact ⟨0, Nat.zero_le _, rfl, rfl, Ext.refl _⟩
 case round =>
  obtain ⟨k, hk, rfl, hall, hx⟩ := hrel
  have HALL := hide hall
  have XR := hide hx
  clear hall hx
  by_cases hlt : k < k1
  ·have hkl : k < C.length := by rw [LC.out]; exact hlt
   obtain ⟨rb, ro, hre, hrb, q0, q1⟩ := readsC_at (O9.out.reads.ext XR.out) (List.getElem?_eq_getElem hkl)
   subst hre
   have HTK : Hid (((C.take (k + 1)).all fun c => inB W H c.1 c.2) = (((C.take k).all fun c => inB W H c.1 c.2) && inB W H C[k].1 C[k].2)) := hide (by
    rw [List.take_add_one, List.getElem?_eq_getElem hkl, List.all_append]
    simp)
   have HAL := hide (fun (h : inB W H C[k].1 C[k].2 = false) => (show (C.all fun c => inB W H c.1 c.2) = false from by
    rw [Bool.eq_false_iff]
    intro h2
    have := List.all_eq_true.1 h2 C[k] (List.getElem_mem hkl)
    rw [h] at this
    cases this))
   generalize C[k] = pc at *
   obtain ⟨px, py⟩ := pc
   simp only at q0 q1 HTK HAL
   have jk : (k : Int) < (k1 : Int) := by omega
   go_upto_region 7 with (fail)
   obtain ⟨wc, hwc⟩ : ∃ z, z = wr.alloc (.cells #[.int .i64 px, .int .i64 py] 28) := ⟨_, rfl⟩
   have xc : Ext wr wc := by rw [hwc]; exact (Ext.refl _).alloc _
   have BC := hide (show Blk wc wr.heap.size 28 #[.int .i64 px, .int .i64 py] by rw [hwc]; exact Blk.new_ rfl)
   have XC := hide (XR.out.trans xc)
   have BL := hide (B9.out.ext XC.out)
   rw [← hwc]
   clear hwc xc hkl q0 q1
   have c0 := BC.out.at 0 rfl; have c1 := BC.out.at 1 rfl; have cz := BC.out.lt
   have y0 := BL.out.at 0 rfl; have y1 := BL.out.at 1 rfl; have y2 := BL.out.at 2 rfl; have y3 := BL.out.at 3 rfl; have y4 := BL.out.at 4 rfl; have y5 := BL.out.at 5 rfl; have y6 := BL.out.at 6 rfl; have y7 := BL.out.at 7 rfl; have y8 := BL.out.at 8 rfl; have y9 := BL.out.at 9 rfl; have y10 := BL.out.at 10 rfl; have y11 := BL.out.at 11 rfl; have yz := BL.out.lt
   have HIN := hide (fun w' => in_any W H px py w')
   generalize inB W H px py = ib at *
   refine seqH_start (S := (fun W => (∀ b o, b < wc.heap.size → W.cell? ⟨b, o, none⟩ = wc.cell? ⟨b, o, none⟩) ∧ Ext wc W)) [(0, true), (1, true), (2, true), (3, true), (4, true), (5, true), (6, false), (7, true)] (by kernel_rfl) (by kernel_rfl) (by kernel_rfl) (by decide) (fun _ _ d _ _ h => by cases d <;> exact h) (by first | with_reducible exact pr_start _ | exact pr_of z_x) (fun hHeld => ?_)
   iterate 6 (apply SeqH.free; (· (simp only [z_0, z_1, z_2]; rfl)); (· first | exact Or.inr ⟨by rfl, rfl⟩ | (refine Or.inl ⟨by rfl, ?_⟩; intro w hSw; (try dsimp only at hSw); go_simp; try with_reducible rfl)); try simp only [Act.put, z_3, z_4, z_5])
   (apply SeqH.step; (· (simp only [z_0, z_1, z_2]; rfl)); intro K hK; go_simp; refine (HIN.out _).mono ?_; rintro e w10 ⟨rfl, hb10⟩; go_wp2_with fail; refine hK.out _ _ (pr_of z_x) (fun hHeld => ?_); clear hK K; try simp only [Act.put, z_3, z_4, z_5])
   iterate 1 (apply SeqH.free; (· (simp only [z_0, z_1, z_2]; rfl)); (· first | exact Or.inr ⟨by rfl, rfl⟩ | (refine Or.inl ⟨by rfl, ?_⟩; intro w hSw; (try dsimp only at hSw); go_simp; try with_reducible rfl)); try simp only [Act.put, z_3, z_4, z_5])
   refine SeqH.done ?_
   have XE := hide hHeld.2
   clear hHeld
   cases ib
   ·go_wp2_with fail
    refine bodyPost_ret (v := .tuple #[.pointer none, .int .i64 10]) (by simp [results, Tryz.results40, go_sem, *]) rfl ?_
    exact .inl ⟨by rw [HC.out]; exact HAL.out (by first | rfl | trivial), rfl, X9w.out.trans (XC.out.trans XE.out)⟩
   ·go_wp2_with fail
    go_roundw
    case rel => exact ⟨k + 1, by omega, by go_num, by rw [HTK.out, HALL.out]; rfl, XC.out.trans XE.out⟩
    case measure => simp [intOf]; omega
  ·obtain rfl : k1 = k := by omega
   rw [List.take_of_length_le (by rw [LC.out]; exact Nat.le_refl _)] at HALL
   go_wp2_with fail
   refine bodyPost_ret (v := .tuple #[.pointer (some ⟨lb, 0, none⟩), .int .i64 0]) (by simp [results, Tryz.results40, go_sem, *]) rfl ?_
   have hall : (((fx, fy) :: (tx, ty) :: more).all fun c => inB W H c.1 c.2) = true := by rw [HC.out]; exact HALL.out
   refine .inr ⟨hall, lb, fa, fc, ga, gc, rfl, X9w.out.trans XR.out, ?_⟩
   exact {
    world := HW.out.ext (X9w.out.trans XR.out)
    blk := by unfold landCells; rw [HPB.out]; exact B9.out.ext XR.out
    row := (row16_ownG O3e.out).ext XR.out
    gates := (O5e.out.ext XR.out).lower (Nat.zero_le _)
    inF := List.all_eq_true.1 hall (fx, fy) (by simp)
    inT := List.all_eq_true.1 hall (tx, ty) (by simp) }
end Go.Proofs.YtaellcgglldjaaaGreat

namespace Go.Proofs.YtaellcgglldjaaaGreat
open Go.RowKit
def legV (a b : Cell) (x : Int) : Value := .agg #[.int .i64 a.1, .int .i64 a.2, .int .i64 b.1, .int .i64 b.2, .int .u64 x]
def thrV (W : Int) (l : List Int) (g : Cell × Cell) (a : Cell) : Value := if g.1 = a then legV a g.2 (costI l W g.2) else if g.2 = a then legV a g.1 (costI l W g.1) else legV (0, 0) (0, 0) 0
section
variable {w : World} {lb : Nat} {p : Spot} {R : Nat → Prop} {W H s : Int} {l : List Int} {fa : Option Addr} {fc : Nat} {ga : Option Addr} {gc : Nat} {f t : Cell}
set_option maxRecDepth 100000 in
set_option maxHeartbeats 1000000 in
theorem through_any (h : HLand w lb p R W H s l fa fc ga gc f t) (g : Cell × Cell) (a : Cell) (h1 : inB W H g.1.1 g.1.2 = true) (h2 : inB W H g.2.1 g.2.2 = true) :
  Calls Tryz.prog 101 #[.pointer (some ⟨lb, 0, none⟩), .agg #[.int .i64 g.1.1, .int .i64 g.1.2, .int .i64 g.2.1, .int .i64 g.2.2], .agg #[.int .i64 a.1, .int .i64 a.2]] w fun e w' => e = .returned (thrV W l g a) ∧ Ext w w' := by
 have HC1 := hide (fun (w' : World) (x : Ext w w') => cost_any (h.ext x) h1)
 have HC2 := hide (fun (w' : World) (x : Ext w w') => cost_any (h.ext x) h2)
 clear h h1 h2
 obtain ⟨⟨ux, uy⟩, ⟨vx, vy⟩⟩ := g
 obtain ⟨ax, ay⟩ := a
 simp only at HC1 HC2
 have hE1 := fun (w : World) => eq_cell (ax, ay) (ux, uy) w
 have hE2 := fun (w : World) => eq_cell (ax, ay) (vx, vy) w
 simp only at hE1 hE2
 rw [cellB_eq] at hE1 hE2
 obtain ⟨V, hV⟩ : ∃ V, thrV W l ((ux, uy), (vx, vy)) (ax, ay) = V := ⟨_, rfl⟩
 have V1 := hide (fun (h : (ax, ay) = (ux, uy)) => (show legV (ax, ay) (vx, vy) (costI l W (vx, vy)) = V from by rw [← hV]; unfold thrV; rw [if_pos h.symm]))
 have V2 := hide (fun (h : ¬ (ax, ay) = (ux, uy)) (h' : (ax, ay) = (vx, vy)) => (show legV (ax, ay) (ux, uy) (costI l W (ux, uy)) = V from by rw [← hV]; unfold thrV; rw [if_neg (fun e => h e.symm), if_pos h'.symm]))
 have V3 := hide (fun (h : ¬ (ax, ay) = (ux, uy)) (h' : ¬ (ax, ay) = (vx, vy)) => (show legV (0, 0) (0, 0) 0 = V from by rw [← hV]; unfold thrV; rw [if_neg (fun e => h e.symm), if_neg (fun e => h' e.symm)]))
 rw [hV]
 clear hV
 simp only
 go_enter Tryz.func101, Tryz.ntmps101
 go_upto_region 1 with (fail)
 obtain ⟨w1, hw1⟩ : ∃ z, z = ((w.alloc (.cells #[.int .i64 ux, .int .i64 uy, .int .i64 vx, .int .i64 vy] 160)).alloc (.cells #[.int .i64 ax, .int .i64 ay] 28)).alloc (.cells #[.int .i64 0, .int .i64 0, .int .i64 0, .int .i64 0, .int .u64 0] 56) := ⟨_, rfl⟩
 have X1 := hide (show Ext w w1 by rw [hw1]; exact (((Ext.refl _).alloc _).alloc _).alloc _)
 have G1 := hide (show Blk w1 w.heap.size 160 #[.int .i64 ux, .int .i64 uy, .int .i64 vx, .int .i64 vy] by rw [hw1]; exact (Blk.new_ rfl).over.over)
 have A1 := hide (show Blk w1 (w.heap.size + 1) 28 #[.int .i64 ax, .int .i64 ay] by rw [hw1]; exact (Blk.new_ (by simp)).over)
 have L1 := hide (show Blk w1 (w.heap.size + 1 + 1) 56 #[.int .i64 0, .int .i64 0, .int .i64 0, .int .i64 0, .int .u64 0] by rw [hw1]; exact Blk.new_ (by simp))
 rw [← hw1]
 obtain ⟨gb, hgb⟩ : ∃ z, w.heap.size = z := ⟨_, rfl⟩
 have zgw : w.heap.size ≤ gb := by omega
 rw [hgb] at G1 A1 L1 ⊢
 clear hw1 hgb
 have g0 := G1.out.at 0 rfl; have g1 := G1.out.at 1 rfl; have g2 := G1.out.at 2 rfl; have g3 := G1.out.at 3 rfl; have gz := G1.out.lt
 have c0 := A1.out.at 0 rfl; have c1 := A1.out.at 1 rfl; have cz := A1.out.lt
 have r0 := L1.out.at 0 rfl; have r1 := L1.out.at 1 rfl; have r2 := L1.out.at 2 rfl; have r3 := L1.out.at 3 rfl; have r4 := L1.out.at 4 rfl; have rz := L1.out.lt
 have S0 := hide (show CellsAt [(⟨gb, 0, none⟩, .int .i64 ux), (⟨gb, 1, none⟩, .int .i64 uy), (⟨gb, 2, none⟩, .int .i64 vx), (⟨gb, 3, none⟩, .int .i64 vy), (⟨gb + 1, 0, none⟩, .int .i64 ax), (⟨gb + 1, 1, none⟩, .int .i64 ay)] w1 from ⟨g0, g1, g2, g3, c0, c1, trivial⟩)
 have FIN : Hid (∀ (w2 : World) (a b c d e : Value), Ext w1 w2 → Blk (((((w2.setCell ⟨gb + 1 + 1, 0, none⟩ a).setCell ⟨gb + 1 + 1, 1, none⟩ b).setCell ⟨gb + 1 + 1, 2, none⟩ c).setCell ⟨gb + 1 + 1, 3, none⟩ d).setCell ⟨gb + 1 + 1, 4, none⟩ e) (gb + 1 + 1) 56 #[a, b, c, d, e] ∧ Ext w (((((w2.setCell ⟨gb + 1 + 1, 0, none⟩ a).setCell ⟨gb + 1 + 1, 1, none⟩ b).setCell ⟨gb + 1 + 1, 2, none⟩ c).setCell ⟨gb + 1 + 1, 3, none⟩ d).setCell ⟨gb + 1 + 1, 4, none⟩ e)) := hide (fun w2 a b c d e x => by
  refine ⟨?_, ?_⟩
  ·exact (((((L1.out.ext x).set_ 0 a).set_ 1 b).set_ 2 c).set_ 3 d).set_ 4 e
  ·exact (((((X1.out.trans x).setCell (p := ⟨gb + 1 + 1, 0, none⟩) (by simp; omega) a).setCell (p := ⟨gb + 1 + 1, 1, none⟩) (by simp; omega) b).setCell (p := ⟨gb + 1 + 1, 2, none⟩) (by simp; omega) c).setCell (p := ⟨gb + 1 + 1, 3, none⟩) (by simp; omega) d).setCell (p := ⟨gb + 1 + 1, 4, none⟩) (by simp; omega) e)
 have rf0 := L1.out.frozen 0
 have rf1 := L1.out.frozen 1
 have rf2 := L1.out.frozen 2
 have rf3 := L1.out.frozen 3
 have rf4 := L1.out.frozen 4
 by_cases e1 : (ax, ay) = (ux, uy)
 ·have d1 : decide ((ax, ay) = (ux, uy)) = true := by simpa using e1
  rw [d1] at hE1
  have HVV := hide (V1.out e1)
  go_upto_region 3 with (fail)
  refine seqR_start (S := (CellsAt [(⟨gb, 0, none⟩, .int .i64 ux), (⟨gb, 1, none⟩, .int .i64 uy), (⟨gb, 2, none⟩, .int .i64 vx), (⟨gb, 3, none⟩, .int .i64 vy), (⟨gb + 1, 0, none⟩, .int .i64 ax), (⟨gb + 1, 1, none⟩, .int .i64 ay)])) 8 [(0, true), (1, true), (2, true), (3, true), (4, true), (5, true), (6, false), (7, true), (8, false)] (by kernel_rfl) (by kernel_rfl) (by kernel_rfl) (by decide) (fun _ _ d _ _ h => by cases d <;> exact h) (CellsAt.ext ((Ext.refl _).drew) S0.out) (fun hHeld => ?_)
  iterate 6 (apply SeqR.free; (· (simp only [z_0, z_1, z_2]; rfl)); (· first | exact Or.inr ⟨by rfl, rfl⟩ | (refine Or.inl ⟨by rfl, ?_⟩; intro w hSw; (try dsimp only at hSw); simp only [CellsAt] at hSw; go_simp; try with_reducible rfl)); try simp only [Act.put, z_3, z_4, z_5])
  (apply SeqR.step; (· (simp only [z_0, z_1, z_2]; rfl)); intro K hK; go_simp; refine (HC2.out _ (X1.out.trans z_x)).mono ?_; rintro e w3 ⟨rfl, x3⟩; have X3 := hide (show Ext w1 w3 from z_x); have L3 := hide (L1.out.ext X3.out); have t0 := L3.out.at 0 rfl; have t1 := L3.out.at 1 rfl; have t2 := L3.out.at 2 rfl; have t3 := L3.out.at 3 rfl; have t4 := L3.out.at 4 rfl; have tz := L3.out.lt; have tf0 := L3.out.frozen 0; have tf1 := L3.out.frozen 1; have tf2 := L3.out.frozen 2; have tf3 := L3.out.frozen 3; have tf4 := L3.out.frozen 4; clear x3; go_wp2_with fail; refine hK.out _ _ (fun _ => (CellsAt.ext X3.out S0.out)) (fun hHeld => ?_); replace hHeld := hHeld (by decide); clear hK K; try simp only [Act.put, z_3, z_4, z_5])
  iterate 1 (apply SeqR.free; (· (simp only [z_0, z_1, z_2]; rfl)); (· first | exact Or.inr ⟨by rfl, rfl⟩ | (refine Or.inl ⟨by rfl, ?_⟩; intro w hSw; (try dsimp only at hSw); simp only [CellsAt] at hSw; go_simp; try with_reducible rfl)); try simp only [Act.put, z_3, z_4, z_5])
  (apply SeqR.step; (· (simp only [z_0, z_1, z_2]; rfl)); intro K hK; go_simp; refine hK.out _ _ (fun h => absurd rfl h) (fun hHeld => ?_); clear hK K; try simp only [Act.put, z_3, z_4, z_5])
  refine SeqR.done ?_
  clear hHeld t0 t1 t2 t3 t4 tz tf0 tf1 tf2 tf3 tf4 r0 r1 r2 r3 r4 rz rf0 rf1 rf2 rf3 rf4 c0 c1 cz g0 g1 g2 g3 gz
  have FB := hide (FIN.out w3 (.int .i64 ax) (.int .i64 ay) (.int .i64 vx) (.int .i64 vy) (.int .u64 (costI l W (vx, vy))) X3.out)
  have y0 := FB.out.1.at 0 rfl
  have y1 := FB.out.1.at 1 rfl
  have y2 := FB.out.1.at 2 rfl
  have y3 := FB.out.1.at 3 rfl
  have y4 := FB.out.1.at 4 rfl
  have yz := FB.out.1.lt
  go_wp2_with fail
  exact bodyPost_ret (v := .agg #[.int .i64 ax, .int .i64 ay, .int .i64 vx, .int .i64 vy, .int .u64 (costI l W (vx, vy))]) (by simp [results, Tryz.results101, go_sem, *]) rfl ⟨congrArg Ending.returned HVV.out, FB.out.2⟩
 ·have d1 : decide ((ax, ay) = (ux, uy)) = false := by simpa using e1
  rw [d1] at hE1
  by_cases e2 : (ax, ay) = (vx, vy)
  ·have d2 : decide ((ax, ay) = (vx, vy)) = true := by simpa using e2
   rw [d2] at hE2
   have HVV := hide (V2.out e1 e2)
   go_upto_region 5 with (fail)
   refine seqR_start (S := (CellsAt [(⟨gb, 0, none⟩, .int .i64 ux), (⟨gb, 1, none⟩, .int .i64 uy), (⟨gb, 2, none⟩, .int .i64 vx), (⟨gb, 3, none⟩, .int .i64 vy), (⟨gb + 1, 0, none⟩, .int .i64 ax), (⟨gb + 1, 1, none⟩, .int .i64 ay)])) 8 [(0, true), (1, true), (2, true), (3, true), (4, true), (5, true), (6, false), (7, true), (8, false)] (by kernel_rfl) (by kernel_rfl) (by kernel_rfl) (by decide) (fun _ _ d _ _ h => by cases d <;> exact h) (CellsAt.ext ((Ext.refl _).drew) S0.out) (fun hHeld => ?_)
   iterate 6 (apply SeqR.free; (· (simp only [z_0, z_1, z_2]; rfl)); (· first | exact Or.inr ⟨by rfl, rfl⟩ | (refine Or.inl ⟨by rfl, ?_⟩; intro w hSw; (try dsimp only at hSw); simp only [CellsAt] at hSw; go_simp; try with_reducible rfl)); try simp only [Act.put, z_3, z_4, z_5])
   (apply SeqR.step; (· (simp only [z_0, z_1, z_2]; rfl)); intro K hK; go_simp; refine (HC1.out _ (X1.out.trans z_x)).mono ?_; rintro e w3 ⟨rfl, x3⟩; have X3 := hide (show Ext w1 w3 from z_x); have L3 := hide (L1.out.ext X3.out); have t0 := L3.out.at 0 rfl; have t1 := L3.out.at 1 rfl; have t2 := L3.out.at 2 rfl; have t3 := L3.out.at 3 rfl; have t4 := L3.out.at 4 rfl; have tz := L3.out.lt; have tf0 := L3.out.frozen 0; have tf1 := L3.out.frozen 1; have tf2 := L3.out.frozen 2; have tf3 := L3.out.frozen 3; have tf4 := L3.out.frozen 4; clear x3; go_wp2_with fail; refine hK.out _ _ (fun _ => (CellsAt.ext X3.out S0.out)) (fun hHeld => ?_); replace hHeld := hHeld (by decide); clear hK K; try simp only [Act.put, z_3, z_4, z_5])
   iterate 1 (apply SeqR.free; (· (simp only [z_0, z_1, z_2]; rfl)); (· first | exact Or.inr ⟨by rfl, rfl⟩ | (refine Or.inl ⟨by rfl, ?_⟩; intro w hSw; (try dsimp only at hSw); simp only [CellsAt] at hSw; go_simp; try with_reducible rfl)); try simp only [Act.put, z_3, z_4, z_5])
   (apply SeqR.step; (· (simp only [z_0, z_1, z_2]; rfl)); intro K hK; go_simp; refine hK.out _ _ (fun h => absurd rfl h) (fun hHeld => ?_); clear hK K; try simp only [Act.put, z_3, z_4, z_5])
   refine SeqR.done ?_
   clear hHeld t0 t1 t2 t3 t4 tz tf0 tf1 tf2 tf3 tf4 r0 r1 r2 r3 r4 rz rf0 rf1 rf2 rf3 rf4 c0 c1 cz g0 g1 g2 g3 gz
   have FB := hide (FIN.out w3 (.int .i64 ax) (.int .i64 ay) (.int .i64 ux) (.int .i64 uy) (.int .u64 (costI l W (ux, uy))) X3.out)
   have y0 := FB.out.1.at 0 rfl
   have y1 := FB.out.1.at 1 rfl
   have y2 := FB.out.1.at 2 rfl
   have y3 := FB.out.1.at 3 rfl
   have y4 := FB.out.1.at 4 rfl
   have yz := FB.out.1.lt
   go_wp2_with fail
   exact bodyPost_ret (v := .agg #[.int .i64 ax, .int .i64 ay, .int .i64 ux, .int .i64 uy, .int .u64 (costI l W (ux, uy))]) (by simp [results, Tryz.results101, go_sem, *]) rfl ⟨congrArg Ending.returned HVV.out, FB.out.2⟩
  ·have d2 : decide ((ax, ay) = (vx, vy)) = false := by simpa using e2
   rw [d2] at hE2
   have HVV := hide (V3.out e1 e2)
   have FB := hide (FIN.out w1 (.int .i64 0) (.int .i64 0) (.int .i64 0) (.int .i64 0) (.int .u64 0) (Ext.refl _))
   have y0 := FB.out.1.at 0 rfl
   have y1 := FB.out.1.at 1 rfl
   have y2 := FB.out.1.at 2 rfl
   have y3 := FB.out.1.at 3 rfl
   have y4 := FB.out.1.at 4 rfl
   have yz := FB.out.1.lt
   go_wp2_with fail
   exact bodyPost_ret (v := .agg #[.int .i64 0, .int .i64 0, .int .i64 0, .int .i64 0, .int .u64 0]) (by simp [results, Tryz.results101, go_sem, *]) rfl ⟨congrArg Ending.returned HVV.out, FB.out.2⟩
end
end Go.Proofs.YtaellcgglldjaaaGreat

