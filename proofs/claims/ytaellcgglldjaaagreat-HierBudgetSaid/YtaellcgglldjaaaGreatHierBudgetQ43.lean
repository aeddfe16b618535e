/- Part of a proof: StarR StarS HierX FloodI0 StarM0 HierY HierZ. -/
import Derived.Test.YtaellcgglldjaaaGreatHierBudgetQ42
import Derived.Test.YtaellcgglldjaaaGreatHierBudgetQ23
import Derived.Test.YtaellcgglldjaaaGreatHierBudgetQ41
import Derived.Test.YtaellcgglldjaaaGreatHierBudgetQ35
import Derived.Test.YtaellcgglldjaaaGreatHierBudgetQ14
import Derived.Test.YtaellcgglldjaaaGreatHierBudgetQ02
import Derived.Test.YtaellcgglldjaaaGreatHierBudgetQ24
set_option linter.all false
set_option linter.unusedVariables false
set_option linter.unusedSimpArgs false
namespace Go.Proofs.YtaellcgglldjaaaGreat

def hT (W : Int) (t : Nat) (v : Nat) : Int := manh (vx W v) (vy W v) (vx W t) (vy W t)
def SrchN (G : Net) (W : Int) (s t : Nat) (b : Int) (p : List Nat) (c k e : Int) : Prop :=
 (G.op s = true ∧ G.op t = true ∧ ARun G W (hT W t) t b (start0 s) p c k e) ∨ (¬ (G.op s = true ∧ G.op t = true) ∧ p = [] ∧ c = 0 ∧ k = 0 ∧ e = 22)
def Srch (W H : Int) (l : List Int) (x y tx ty b : Int) (p : List Nat) (c k e : Int) : Prop :=
 (findE W H l.length x y tx ty b ≠ 0 ∧ p = [] ∧ c = 0 ∧ k = 0 ∧ e = findE W H l.length x y tx ty b) ∨
 (findE W H l.length x y tx ty b = 0 ∧ ∃ L : LandP W H l 0 0 W H, SrchN (mapNet L) W (idxN W (x, y)) (idxN W (tx, ty)) b p c k e)
theorem SrchN.one {G : Net} {W : Int} (hW : 1 ≤ W) {s t : Nat} {b : Int} {p p' : List Nat} {c c' k k' e e' : Int} (h : SrchN G W s t b p c k e) (h' : SrchN G W s t b p' c' k' e') : p = p' ∧ c = c' ∧ k = k' ∧ e = e' := by
 rcases h with ⟨h1, h2, h3⟩ | ⟨h1, rfl, rfl, rfl, rfl⟩
 ·rcases h' with ⟨_, _, k3⟩ | ⟨k1, _⟩
  ·exact h3.one hW k3
  ·exact absurd ⟨h1, h2⟩ k1
 ·rcases h' with ⟨k1, k2, _⟩ | ⟨_, rfl, rfl, rfl, rfl⟩
  ·exact absurd ⟨k1, k2⟩ h1
  ·exact ⟨rfl, rfl, rfl, rfl⟩
theorem Srch.one {W H : Int} {l : List Int} {x y tx ty b : Int} {p p' : List Nat} {c c' k k' e e' : Int} (h : Srch W H l x y tx ty b p c k e) (h' : Srch W H l x y tx ty b p' c' k' e') : p = p' ∧ c = c' ∧ k = k' ∧ e = e' := by
 rcases h with ⟨h1, rfl, rfl, rfl, rfl⟩ | ⟨h1, L, h2⟩
 ·rcases h' with ⟨_, rfl, rfl, rfl, rfl⟩ | ⟨k1, _⟩
  ·exact ⟨rfl, rfl, rfl, rfl⟩
  ·exact absurd k1 h1
 ·rcases h' with ⟨k1, _⟩ | ⟨_, _, k2⟩
  ·exact absurd h1 k1
  ·exact h2.one L.wh.1 k2
structure NetOk (G : Net) (W : Int) (t : Nat) : Prop where
 few : G.n ≤ 1000000
 guess : Guess G (hT W t)
 adj : ∀ v m, m ∈ G.adj v → G.op m = true
theorem SrchN.ends {G : Net} {W : Int} {s t : Nat} (N : NetOk G W t) {b : Int} {p : List Nat} {c k e : Int} (h : SrchN G W s t b p c k e) {D : Nat → Int} (F : IsFar G s D) : 0 ≤ k ∧ k ≤ G.n ∧
  ((e = 0 ∧ G.op s = true ∧ Found G D s t p c) ∨ (e = 22 ∧ p = [] ∧ c = 0 ∧ (¬ (G.op s = true ∧ G.op t = true) ∨ (G.op s = true ∧ D t = infI))) ∨ (e = 23 ∧ p = [] ∧ c = 0 ∧ k = b ∧ b < G.n)) := by
 rcases h with ⟨h1, h2, h3⟩ | ⟨h1, rfl, rfl, rfl, rfl⟩
 ·have hc := run_cnt h3
  obtain ⟨a1, a2⟩ := run_end h3 (sinv_start h1 F) F N.few N.guess N.adj (by
   show updN (fun _ => 0) s 1 t ≠ 2
   unfold updN
   split <;> simp)
  refine ⟨hc, a1, ?_⟩
  rcases a2 with ⟨e0, a⟩ | ⟨e0, a, b1, b2⟩ | ⟨e0, b1, b2, b3, b4⟩
  ·exact .inl ⟨e0, h1, a⟩
  ·exact .inr (.inl ⟨e0, b1, b2, .inr ⟨h1, a⟩⟩)
  ·exact .inr (.inr ⟨e0, b1, b2, b3, b4⟩)
 ·exact ⟨Int.le_refl _, by omega, .inr (.inl ⟨rfl, rfl, rfl, .inl h1⟩)⟩
end Go.Proofs.YtaellcgglldjaaaGreat

namespace Go.Proofs.YtaellcgglldjaaaGreat
open Go.RowKit
def Finds (W H : Int) (l : List Int) (x y tx ty b : Int) (base : Nat) (e : Ending) (w' : World) : Prop :=
 ∃ (p : List Nat) (c k er : Int) (v : Value), Srch W H l x y tx ty b p c k er ∧ e = .returned (.tuple #[.agg #[v, .int .u64 c, .int .i64 k], .int .i64 er]) ∧ Own cellE w' base 28 v (p.map (cellV W))
theorem sFind_uni {w : World} (W H : Int) (a : Option Addr) {l : List Int} (c : Nat) (x y tx ty b : Int) (hr : Row16 w a l) (hu : U16s l) :
  Calls Tryz.prog 25 #[.agg #[.int .i64 W, .int .i64 H, .slice a l.length c], .agg #[.int .i64 x, .int .i64 y], .agg #[.int .i64 tx, .int .i64 ty], .int .i64 b] w fun e w' => Ext w w' ∧ Finds W H l x y tx ty b w.heap.size e w' := by
 by_cases he : findE W H l.length x y tx ty b = 0
 ·refine (sFind_any c he hr hu).mono ?_
  rintro e w' ⟨hx, h1, h2⟩
  refine ⟨hx, ?_⟩
  by_cases ho : (mapNet (landP_of (whole_of he).1 hu)).op (idxN W (x, y)) = true ∧ (mapNet (landP_of (whole_of he).1 hu)).op (idxN W (tx, ty)) = true
  ·obtain ⟨p, cc, k, er, v, a1, a2, a3⟩ := h1 ho
   exact ⟨p, cc, k, er, v, .inr ⟨he, _, .inl ⟨ho.1, ho.2, a1⟩⟩, a2, a3⟩
  ·exact ⟨[], 0, 0, 22, _, .inr ⟨he, landP_of (whole_of he).1 hu, .inr ⟨ho, rfl, rfl, rfl, rfl⟩⟩, h2 ho, Own.nil _ _ _ _⟩
 ·refine (sFind_bad W H a l.length c x y tx ty b he).mono ?_
  rintro e w' ⟨h1, hx⟩
  exact ⟨hx, [], 0, 0, _, _, .inl ⟨he, rfl, rfl, rfl, rfl⟩, h1, Own.nil _ _ _ _⟩
end Go.Proofs.YtaellcgglldjaaaGreat

namespace Go.Proofs.YtaellcgglldjaaaGreat
open Go.RowKit
set_option maxRecDepth 100000 in
theorem cells15_any (a b : Option Addr) (l m : List Cell) (c d : Nat) (w : World) (hl : l.length ≤ 1000000) (ha : RowC w a l) (hb : RowC w b m) :
  Calls Tryz.prog 16 #[.slice a l.length c, .slice b m.length d] w fun e w' => e = .returned (.bool (decide (l = m))) ∧ Ext w w' := by
 by_cases hlen : l.length = m.length
 ·have HA := hide ha
  have HB := hide hb
  have HLM := hide hlen
  obtain ⟨n, hn⟩ : ∃ n, l.length = n := ⟨_, rfl⟩
  have HN := hide hn
  rw [← hlen, hn]
  rw [hn] at hl
  clear ha hb hlen hn
  go_enter Tryz.func16, Tryz.ntmps16
  go_wp2_with fail
  go_loopw [5] (fun i wr => ∃ k : Nat, k ≤ n ∧ i = .int .i64 k ∧ l.take k = m.take k ∧ Ext w wr) (fun i _ => n - (intOf i).toNat)
  case atStart => exact ⟨0, Nat.zero_le _, rfl, rfl, (by (with_reducible (repeat' (first | exact z_r _ | assumption | refine z_d ?_ | refine z_n ?_ _ | refine z_a ?_ _ | refine z_s ?_ ?_ _ | refine z_t ?_ (by assumption)))); all_goals (simp <;> omega))⟩
  case round =>
   obtain ⟨k, hk, rfl, htk, hx⟩ := hrel
   have HT := hide htk
   have HX := hide hx
   clear htk hx
   by_cases hlt : k < n
   ·have h1 : k < l.length := by rw [HN.out]; exact hlt
    have h2 : k < m.length := by rw [← HLM.out]; exact h1
    obtain ⟨ba, oa, rfl, za, ca⟩ := HA.out (by omega)
    obtain ⟨bb, ob, rfl, zb, cb⟩ := HB.out (by omega)
    have d0 := (HX.out.cell (p := ⟨ba, oa + k * 2, none⟩) za).trans (ca k h1).1
    have d2 := (HX.out.cell (p := ⟨ba, oa + k * 2 + 1, none⟩) za).trans (ca k h1).2
    have d1 := (HX.out.cell (p := ⟨bb, ob + k * 2, none⟩) zb).trans (cb k h2).1
    have d3 := (HX.out.cell (p := ⟨bb, ob + k * 2 + 1, none⟩) zb).trans (cb k h2).2
    have z0 : ba < wr.heap.size := Nat.lt_of_lt_of_le za HX.out.size
    have z1 : bb < wr.heap.size := Nat.lt_of_lt_of_le zb HX.out.size
    have jk : (k : Int) < (n : Int) := by omega
    have e1 : l[k]? = some l[k] := List.getElem?_eq_getElem h1
    have e2 : m[k]? = some m[k] := List.getElem?_eq_getElem h2
    obtain ⟨x, hx⟩ : ∃ x, l[k] = x := ⟨_, rfl⟩
    obtain ⟨y, hy⟩ : ∃ y, m[k] = y := ⟨_, rfl⟩
    rw [hx] at d0 d2 e1
    rw [hy] at d1 d3 e2
    have E1 := hide e1
    have E2 := hide e2
    clear h1 h2 ca cb hx hy e1 e2
    by_cases hxy : x = y
    ·have HN1 : Hid (l.take (k + 1) = m.take (k + 1)) := hide (by rw [List.take_add_one, List.take_add_one, E1.out, E2.out, HT.out, hxy])
     have hq1 : ∀ w, (Op.equalIn 10000 28 (.agg #[.int .i64 x.1, .int .i64 x.2]) (.agg #[.int .i64 y.1, .int .i64 y.2])).run Tryz.prog w = .ok true w := fun w => by rw [eq_cell x y w, cellB_eq]; simp [hxy]
     have hx := HX.out
     clear hxy
     go_wp2
     go_quiet (fail)
     go_wp2
     go_roundw
     case rel => exact ⟨k + 1, hlt, by go_num, HN1.out, (by (with_reducible (repeat' (first | exact z_r _ | assumption | refine z_d ?_ | refine z_n ?_ _ | refine z_a ?_ _ | refine z_s ?_ ?_ _ | refine z_t ?_ (by assumption)))); all_goals (simp <;> omega))⟩
     case measure => simp [intOf]; omega
    ·have HF : Hid (decide (l = m) = false) := hide (by simp only [decide_eq_false_iff_not]; intro e; rw [e, E2.out] at E1; exact hxy (Option.some.inj E1.out).symm)
     have hq1 : ∀ w, (Op.equalIn 10000 28 (.agg #[.int .i64 x.1, .int .i64 x.2]) (.agg #[.int .i64 y.1, .int .i64 y.2])).run Tryz.prog w = .ok false w := fun w => by rw [eq_cell x y w, cellB_eq]; simp [hxy]
     clear hxy
     have hx := HX.out
     go_wp2
     go_quiet (fail)
     go_wp2
     go_ret
     exact ⟨by rw [HF.out] <;> rfl, (by (with_reducible (repeat' (first | exact z_r _ | assumption | refine z_d ?_ | refine z_n ?_ _ | refine z_a ?_ _ | refine z_s ?_ ?_ _ | refine z_t ?_ (by assumption)))); all_goals (simp <;> omega))⟩
   ·obtain rfl : n = k := by omega
    have HF : Hid (decide (l = m) = true) := hide (by
     have h := HT.out
     rw [List.take_of_length_le (by rw [HN.out]; exact Nat.le_refl _), List.take_of_length_le (by rw [← HLM.out, HN.out]; exact Nat.le_refl _)] at h
     simpa using h)
    have hx := HX.out
    go_wp2
    go_ret
    exact ⟨by rw [HF.out] <;> rfl, (by (with_reducible (repeat' (first | exact z_r _ | assumption | refine z_d ?_ | refine z_n ?_ _ | refine z_a ?_ _ | refine z_s ?_ ?_ _ | refine z_t ?_ (by assumption)))); all_goals (simp <;> omega))⟩
 ·have HF : Hid (decide (l = m) = false) := hide (by simp only [decide_eq_false_iff_not]; intro e; exact hlen (by rw [e]))
  have hb0 : ((l.length : Int) != (m.length : Int)) = true := by simp; omega
  obtain ⟨n, hn⟩ : ∃ n, l.length = n := ⟨_, rfl⟩
  obtain ⟨n2, hn2⟩ : ∃ n, m.length = n := ⟨_, rfl⟩
  have hb1 : (n != n2) = true := by simp; omega
  rw [hn, hn2] at hb0 ⊢
  clear ha hb hlen hn hn2
  go_enter Tryz.func16, Tryz.ntmps16
  go_wp2
  go_ret
  exact ⟨by rw [HF.out] <;> rfl, (by (with_reducible (repeat' (first | exact z_r _ | assumption | refine z_d ?_ | refine z_n ?_ _ | refine z_a ?_ _ | refine z_s ?_ ?_ _ | refine z_t ?_ (by assumption)))); all_goals (simp <;> omega))⟩
theorem aw15_land : LandP 4 2 aw15 0 0 4 2 := ⟨by decide, by decide, aw15_good.u16, by decide⟩
theorem aw15_adj : ∀ v m, m ∈ (mapNet aw15_land).adj v → m < (mapNet aw15_land).n := fun _ m h => (mapNet aw15_land).lt m (adj_op aw15_land h)
theorem aw15_lt (s : Nat) (hs : s < 8) : ∀ u, (start0 s).st u = 1 → u < 8 := fun u hu => by
 have : updN (fun _ => 0) s 1 u = 1 := hu
 unfold updN at this
 split at this
 ·omega
 ·cases this
theorem aw15_star : Srch 4 2 aw15 0 1 3 1 9 [4, 5, 6, 7] 3 4 0 := .inr ⟨by decide, aw15_land, .inl ⟨by decide +kernel, by decide +kernel, runF_ok (k := 20) aw15_adj (aw15_lt 4 (by omega)) (by decide +kernel)⟩⟩
theorem row16_blk15 {w : World} {b : Nat} {l : List Int} (h : Blk w b 84 (l.map (Value.int .u16)).toArray) : Row16 w (some ⟨b, 0, none⟩) l := fun _ => ⟨b, 0, rfl, h.lt, fun k hk => by
 rw [Nat.zero_add, h.cell k]
 simp [hk]⟩
set_option maxRecDepth 100000 in
set_option maxHeartbeats 1000000 in
theorem awake15_any (w : World) : Calls Tryz.prog 10 #[] w fun e w' => e = .returned (.bool true) ∧ Ext w w' := by
 go_enter Tryz.func10, Tryz.ntmps10
 go_wp2_with fail
 obtain ⟨w1, hw1⟩ : ∃ z, z = (w.alloc (.cells #[.int .u16 1, .int .u16 1, .int .u16 1, .int .u16 1, .int .u16 1, .int .u16 1, .int .u16 1, .int .u16 1] 84)).alloc (.cells #[.int .i64 4, .int .i64 2, .slice (some ⟨w.heap.size, 0, none⟩) 8 8] 26) := ⟨_, rfl⟩
 have X1 := hide (show Ext w w1 by rw [hw1]; exact (by (with_reducible (repeat' (first | exact z_r _ | assumption | refine z_d ?_ | refine z_n ?_ _ | refine z_a ?_ _ | refine z_s ?_ ?_ _ | refine z_t ?_ (by assumption)))); all_goals (simp <;> omega)))
 have B0 := hide (show Blk w1 w.heap.size 84 (aw15.map (Value.int .u16)).toArray by rw [hw1]; exact Blk.over (Blk.new_ rfl))
 have BF := hide (show Blk w1 (w.heap.size + 1) 26 #[.int .i64 4, .int .i64 2, .slice (some ⟨w.heap.size, 0, none⟩) 8 8] by rw [hw1]; exact Blk.new_ (by simp))
 obtain ⟨f, hf⟩ : ∃ f, w.heap.size = f := ⟨_, rfl⟩
 rw [hf] at B0 BF hw1
 rw [hf]
 rw [← hw1]
 clear hw1 hf
 have HN := hide (rdNew_yes (w := w1) 8 aw15_good (row16_blk15 B0.out) (by rw [aw15_g]; decide))
 refine HN.out.mono ?_
 clear HN
 rintro e w2 ⟨p, R, rfl, hw, x2, _, _⟩
 have HW := hide hw
 have B2 := hide (B0.out.ext x2)
 have BF2 := hide (BF.out.ext x2)
 have X2 := hide (X1.out.trans x2)
 have HFI := hide (hrFind_uni hw aw15_good aw15_hl (by rw [aw15_g]; decide) (0, 1) (3, 1) 9)
 obtain ⟨pb, hpb⟩ : ∃ z, p.b = z := ⟨_, rfl⟩
 rw [hpb] at HFI ⊢
 simp only at HFI
 clear hw x2 B0 BF X1 hpb
 go_wp2_with fail
 refine HFI.out.mono ?_
 rintro e w3 ⟨x3, pp, cc, kk, er, v, hs, rfl, ho⟩
 obtain ⟨rfl, rfl, rfl, rfl⟩ := hs.one aw15_srch
 have B3 := hide (B2.out.ext x3)
 have BF3 := hide (BF2.out.ext x3)
 have X3 := hide (X2.out.trans x3)
 have O3 := hide ho
 obtain ⟨va, vc, rfl⟩ := ho.slice
 simp only [List.length_cons, List.length_nil, Nat.zero_add, Nat.reduceAdd] at O3 ⊢
 clear hs ho x3 HFI HW B2 BF2
 have y0 := BF3.out.at 0 rfl; have y1 := BF3.out.at 1 rfl; have y2 := BF3.out.at 2 rfl; have yz := BF3.out.lt
 have HSF := hide (fun (w' : World) (x : Ext w3 w') => sFind_uni (w := w') 4 2 (some ⟨f, 0, none⟩) (l := aw15) 8 0 1 3 1 9 ((row16_blk15 B3.out).ext x) aw15_good.u16)
 rw [show aw15.length = 8 from rfl] at HSF
 go_wp2_with fail
 refine (HSF.out _ ((Ext.refl _).alloc _)).mono ?_
 rintro e w5 ⟨x5, p5, c5, k5, e5, v5, hs5, rfl, ho5⟩
 obtain ⟨rfl, rfl, rfl, rfl⟩ := hs5.one aw15_star
 obtain ⟨v5a, v5c, rfl⟩ := ho5.slice
 have R5 := hide (show Blk w5 w3.heap.size 40 #[.slice va 6 vc, .int .u64 5, .int .i64 4] from (Blk.new_ rfl).ext x5)
 have X35 := hide (((Ext.refl w3).alloc _).trans x5)
 simp only [List.length_map, List.length_cons, List.length_nil, Nat.zero_add, Nat.reduceAdd]
 have O5 := hide (O3.out.ext X35.out)
 clear hs5 ho5 x5 y0 y1 y2 yz HSF B3 BF3 O3
 have r0 := R5.out.at 0 rfl; have r1 := R5.out.at 1 rfl; have r2 := R5.out.at 2 rfl; have rz := R5.out.lt
 have HCE := hide (fun (w' : World) (x : Ext w5 w') (bv : Option Addr) (hb : RowC w' bv [(0, 1), (1, 1), (1, 0), (2, 0), (3, 0), (3, 1)]) => cells15_any va bv [(0, 1), (1, 1), (1, 0), (2, 0), (3, 0), (3, 1)] [(0, 1), (1, 1), (1, 0), (2, 0), (3, 0), (3, 1)] vc 6 w' (by decide) (Reads.rowC (n := 6) (c := vc) ((O5.out.ext x).reads)).2 hb)
 simp only [List.length_cons, List.length_nil, Nat.zero_add, Nat.reduceAdd, decide_true] at HCE
 go_wp2_with fail
 refine (HCE.out _ (((Ext.refl _).alloc _).alloc _) _ (Reads.rowC (n := 6) (c := 6) (reads_lit cellE _ #[.int .i64 0, .int .i64 1, .int .i64 1, .int .i64 1, .int .i64 1, .int .i64 0, .int .i64 2, .int .i64 0, .int .i64 3, .int .i64 0, .int .i64 3, .int .i64 1] 28 [(0, 1), (1, 1), (1, 0), (2, 0), (3, 0), (3, 1)] rfl _ _ _ (by simp) rfl)).2).mono ?_
 rintro e w7 ⟨rfl, x7⟩
 have S7 := hide (show Blk w7 w5.heap.size 40 #[.slice v5a 4 v5c, .int .u64 3, .int .i64 4] from ((Blk.new_ rfl).over).ext x7)
 have X7 := hide ((X3.out.trans X35.out).trans ((((Ext.refl w5).alloc (.cells #[.slice v5a 4 v5c, .int .u64 3, .int .i64 4] 40)).alloc (.cells #[.int .i64 0, .int .i64 1, .int .i64 1, .int .i64 1, .int .i64 1, .int .i64 0, .int .i64 2, .int .i64 0, .int .i64 3, .int .i64 0, .int .i64 3, .int .i64 1] 28)).trans x7))
 clear x7 r0 r1 r2 rz
 have s0 := S7.out.at 0 rfl; have s1 := S7.out.at 1 rfl; have s2 := S7.out.at 2 rfl; have sz := S7.out.lt
 go_wp2_with fail
 go_ret
 exact ⟨rfl, X7.out⟩
end Go.Proofs.YtaellcgglldjaaaGreat

namespace Go.Proofs.YtaellcgglldjaaaGreat
open Go.RowKit
end Go.Proofs.YtaellcgglldjaaaGreat

namespace Go.Proofs.YtaellcgglldjaaaGreat
open Go.RowKit
end Go.Proofs.YtaellcgglldjaaaGreat

namespace Go.Proofs.YtaellcgglldjaaaGreat
open Go.RowKit
set_option maxRecDepth 100000 in
theorem r14May15 {w : World} (W H : Int) (a : Option Addr) (n c : Nat) (s : Int) :
  Calls Tryz.prog 33 #[.agg #[.int .i64 W, .int .i64 H, .slice a n c], .int .i64 s] w fun e w' => e = .returned (.int .i64 (newE W H n s)) ∧ Ext w w' := by
 have H1 := hide (fun w' => r04Check_any W H a n c w')
 have H2 := hide (fun w' => rRight_any W H s w')
 by_cases h0 : checkE W H n = 0
 ·rw [h0] at H1
  by_cases h1 : rightB W H s = true
  ·rw [h1] at H2
   have he : newE W H n s = 0 := by unfold newE; rw [if_pos h0, if_pos h1]
   rw [he]
   clear h0 h1 he
   go_enter Tryz.func33, Tryz.ntmps33
   go_wp2_with (first
    | (go_at_call 74; refine (H1.out _).mono ?_; rintro e w1 ⟨rfl, hb1⟩; obtain ⟨hc1, hf1⟩ := hb1.cells; have hz1 := hb1.size; (repeat (first | rw [World.size_alloc] at hz1 | rw [World.size_drew] at hz1)); have z1_0 : w.heap.size < w1.heap.size := (by omega))
    | (go_at_call 75; refine (H2.out _).mono ?_; rintro e w2 ⟨rfl, hb2⟩; obtain ⟨hc2, hf2⟩ := hb2.cells; have hz2 := hb2.size; (repeat (first | rw [World.size_alloc] at hz2 | rw [World.size_drew] at hz2)); have z2_0 : w.heap.size < w2.heap.size := (by omega)))
   go_ret
   exact ⟨rfl, (by (with_reducible (repeat' (first | exact z_r _ | assumption | refine z_d ?_ | refine z_n ?_ _ | refine z_a ?_ _ | refine z_s ?_ ?_ _ | refine z_t ?_ (by assumption)))); all_goals (simp <;> omega))⟩
  ·have h1 : rightB W H s = false := by simpa using h1
   rw [h1] at H2
   have he : newE W H n s = 10 := by unfold newE; rw [if_pos h0, if_neg (by rw [h1]; simp)]
   rw [he]
   clear h0 h1 he
   go_enter Tryz.func33, Tryz.ntmps33
   go_wp2_with (first
    | (go_at_call 74; refine (H1.out _).mono ?_; rintro e w1 ⟨rfl, hb1⟩; obtain ⟨hc1, hf1⟩ := hb1.cells; have hz1 := hb1.size; (repeat (first | rw [World.size_alloc] at hz1 | rw [World.size_drew] at hz1)); have z1_0 : w.heap.size < w1.heap.size := (by omega))
    | (go_at_call 75; refine (H2.out _).mono ?_; rintro e w2 ⟨rfl, hb2⟩; obtain ⟨hc2, hf2⟩ := hb2.cells; have hz2 := hb2.size; (repeat (first | rw [World.size_alloc] at hz2 | rw [World.size_drew] at hz2)); have z2_0 : w.heap.size < w2.heap.size := (by omega)))
   go_ret
   exact ⟨rfl, (by (with_reducible (repeat' (first | exact z_r _ | assumption | refine z_d ?_ | refine z_n ?_ _ | refine z_a ?_ _ | refine z_s ?_ ?_ _ | refine z_t ?_ (by assumption)))); all_goals (simp <;> omega))⟩
 ·have he : newE W H n s = checkE W H n := by unfold newE; rw [if_neg h0]
  rw [he]
  generalize checkE W H n = er at *
  have hq : (er == 0) = false := by simpa using h0
  clear h0 he
  go_enter Tryz.func33, Tryz.ntmps33
  go_wp2_with (go_at_call 74; refine (H1.out _).mono ?_; rintro e w1 ⟨rfl, hb1⟩; obtain ⟨hc1, hf1⟩ := hb1.cells; have hz1 := hb1.size; (repeat (first | rw [World.size_alloc] at hz1 | rw [World.size_drew] at hz1)); have z1_0 : w.heap.size < w1.heap.size := (by omega))
  go_ret
  exact ⟨rfl, (by (with_reducible (repeat' (first | exact z_r _ | assumption | refine z_d ?_ | refine z_n ?_ _ | refine z_a ?_ _ | refine z_s ?_ ?_ _ | refine z_t ?_ (by assumption)))); all_goals (simp <;> omega))⟩
set_option maxRecDepth 100000 in
theorem may15_any (W H : Int) (a : Option Addr) (n c : Nat) (s fx fy tx ty b : Int) (w : World) :
  Calls Tryz.prog 9 #[.agg #[.int .i64 W, .int .i64 H, .slice a n c], .agg #[.int .i64 s, .int .i64 fx, .int .i64 fy, .int .i64 tx, .int .i64 ty, .int .i64 b]] w fun e w' => e = .returned (.bool (decide (n ≤ 150) && decide (newE W H n s = 0))) ∧ Ext w w' := by
 have HM := hide (fun (w' : World) => r14May15 (w := w') W H a n c s)
 by_cases hn : n ≤ 150
 ·have hb : decide ((n : Int) ≤ 150) = true := by simp; omega
  rw [show decide (n ≤ 150) = true by simpa using hn, Bool.true_and]
  obtain ⟨er, her⟩ : ∃ z, newE W H n s = z := ⟨_, rfl⟩
  rw [her] at HM ⊢
  have hz : (er == 0) = decide (er = 0) := by rw [Bool.eq_iff_iff]; simp
  clear hn her
  go_enter Tryz.func9, Tryz.ntmps9
  go_wp2_with (go_at_call 33; refine (HM.out _).mono ?_; rintro e w1 ⟨rfl, hb1⟩; obtain ⟨hc1, hf1⟩ := hb1.cells; have hz1 := hb1.size; (repeat (first | rw [World.size_alloc] at hz1 | rw [World.size_drew] at hz1)); have z1_0 : w.heap.size < w1.heap.size := (by omega))
  go_ret
  exact ⟨by rw [← hz] <;> rfl, (by (with_reducible (repeat' (first | exact z_r _ | assumption | refine z_d ?_ | refine z_n ?_ _ | refine z_a ?_ _ | refine z_s ?_ ?_ _ | refine z_t ?_ (by assumption)))); all_goals (simp <;> omega))⟩
 ·have hb : decide ((n : Int) ≤ 150) = false := by simp; omega
  rw [show decide (n ≤ 150) = false by simpa using hn, Bool.false_and]
  clear hn HM
  go_enter Tryz.func9, Tryz.ntmps9
  go_wp2_with fail
  go_ret
  exact ⟨rfl, (by (with_reducible (repeat' (first | exact z_r _ | assumption | refine z_d ?_ | refine z_n ?_ _ | refine z_a ?_ _ | refine z_s ?_ ?_ _ | refine z_t ?_ (by assumption)))); all_goals (simp <;> omega))⟩
theorem look_none (f t : Cell) (m : Option Addr) (n c : Nat) (w : World) :
  Calls Tryz.prog 40 #[.pointer none, .agg #[.int .i64 f.1, .int .i64 f.2], .agg #[.int .i64 t.1, .int .i64 t.2], .slice m n c] w fun e w' => e = .returned (.tuple #[.pointer none, .int .i64 2]) ∧ Ext w w' := by
 obtain ⟨fx, fy⟩ := f
 obtain ⟨tx, ty⟩ := t
 go_enter Tryz.func40, Tryz.ntmps40
 go_wp2_with fail
 refine bodyPost_ret (v := .tuple #[.pointer none, .int .i64 2]) (by simp [results, Tryz.results40, go_sem, *]) rfl ?_
 exact ⟨rfl, (by (with_reducible (repeat' (first | exact z_r _ | assumption | refine z_d ?_ | refine z_n ?_ _ | refine z_a ?_ _ | refine z_s ?_ ?_ _ | refine z_t ?_ (by assumption)))); all_goals (simp <;> omega))⟩
set_option maxRecDepth 100000 in
theorem find_none (fx fy tx ty b : Int) (w : World) :
  Calls Tryz.prog 12 #[.pointer none, .agg #[.int .i64 fx, .int .i64 fy], .agg #[.int .i64 tx, .int .i64 ty], .int .i64 b] w fun e w' => e = .returned (.tuple #[.agg #[.slice none 0 0, .int .u64 0, .int .i64 0], .int .i64 2]) ∧ Ext w w' := by
 have HLK := hide (fun (w' : World) => look_none (fx, fy) (tx, ty) none 0 0 w')
 simp only at HLK
 go_enter Tryz.func12, Tryz.ntmps12
 go_upto_region 1 with (fail)
 obtain ⟨w1, hw1⟩ : ∃ z, z = ((w.alloc (.cells #[.int .i64 fx, .int .i64 fy] 28)).alloc (.cells #[.int .i64 tx, .int .i64 ty] 28)).alloc (.cells #[.slice none 0 0, .int .u64 0, .int .i64 0] 40) := ⟨_, rfl⟩
 have X1 := hide (show Ext w w1 by rw [hw1]; exact (((Ext.refl _).alloc _).alloc _).alloc _)
 have F1 := hide (show Blk w1 w.heap.size 28 #[.int .i64 fx, .int .i64 fy] by rw [hw1]; exact (Blk.new_ rfl).over.over)
 have T1 := hide (show Blk w1 (w.heap.size + 1) 28 #[.int .i64 tx, .int .i64 ty] by rw [hw1]; exact (Blk.new_ (by simp)).over)
 have R1 := hide (show Blk w1 (w.heap.size + 1 + 1) 40 #[.slice none 0 0, .int .u64 0, .int .i64 0] by rw [hw1]; exact Blk.new_ (by simp))
 rw [← hw1]
 obtain ⟨fb, hfb⟩ : ∃ z, w.heap.size = z := ⟨_, rfl⟩
 have HFB := hide hfb
 rw [hfb] at F1 T1 R1 ⊢
 clear hw1 hfb
 have f0 := F1.out.at 0 rfl; have f1 := F1.out.at 1 rfl; have fz := F1.out.lt
 have t0 := T1.out.at 0 rfl; have t1 := T1.out.at 1 rfl; have tz := T1.out.lt
 go_wp2_with fail
 refine (HLK.out _).mono ?_
 rintro e w2 ⟨rfl, x2⟩
 have X2 := hide (X1.out.trans x2)
 have R2 := hide (R1.out.ext x2)
 clear x2 f0 f1 fz t0 t1 tz
 have r0 := R2.out.at 0 rfl; have r1 := R2.out.at 1 rfl; have r2 := R2.out.at 2 rfl; have rz := R2.out.lt
 have g0 := R2.out.frozen 0
 have g1 := R2.out.frozen 1
 have g2 := R2.out.frozen 2
 go_wp2_with fail
 refine bodyPost_ret (v := .tuple #[.agg #[.slice none 0 0, .int .u64 0, .int .i64 0], .int .i64 2]) (by simp [results, Tryz.results12, go_sem, *]) rfl ?_
 exact ⟨rfl, ((X2.out.setCell (p := ⟨fb + 1 + 1, 0, none⟩) (by have := HFB.out; simp; omega) _).setCell (p := ⟨fb + 1 + 1, 1, none⟩) (by have := HFB.out; simp; omega) _).setCell (p := ⟨fb + 1 + 1, 2, none⟩) (by have := HFB.out; simp; omega) _⟩
set_option maxRecDepth 100000 in
theorem nodes_none (fx fy tx ty : Int) (w : World) :
  Calls Tryz.prog 22 #[.pointer none, .agg #[.int .i64 fx, .int .i64 fy], .agg #[.int .i64 tx, .int .i64 ty]] w fun e w' => e = .returned (.tuple #[.slice none 0 0, .int .i64 2]) ∧ Ext w w' := by
 have HLK := hide (fun (w' : World) => look_none (fx, fy) (tx, ty) none 0 0 w')
 simp only at HLK
 go_enter Tryz.func22, Tryz.ntmps22
 go_wp2_with (go_at_call 40; refine (HLK.out _).mono ?_; rintro e w1 ⟨rfl, hb1⟩; obtain ⟨hc1, hf1⟩ := hb1.cells; have hz1 := hb1.size; (repeat (first | rw [World.size_alloc] at hz1 | rw [World.size_drew] at hz1)); have z1_0 : w.heap.size < w1.heap.size := (by omega); have z1_1 : w.heap.size + 1 < w1.heap.size := (by omega))
 refine bodyPost_ret (v := .tuple #[.slice none 0 0, .int .i64 2]) (by simp [results, Tryz.results22, go_sem, *]) rfl ?_
 exact ⟨rfl, (by (with_reducible (repeat' (first | exact z_r _ | assumption | refine z_d ?_ | refine z_n ?_ _ | refine z_a ?_ _ | refine z_s ?_ ?_ _ | refine z_t ?_ (by assumption)))); all_goals (simp <;> omega))⟩
set_option maxRecDepth 100000 in
theorem legs_none (fx fy tx ty x y : Int) (w : World) :
  Calls Tryz.prog 17 #[.pointer none, .agg #[.int .i64 fx, .int .i64 fy], .agg #[.int .i64 tx, .int .i64 ty], .agg #[.int .i64 x, .int .i64 y]] w fun e w' => e = .returned (.tuple #[.slice none 0 0, .int .i64 2]) ∧ Ext w w' := by
 have HLK := hide (fun (m : Option Addr) (n c : Nat) (w' : World) => look_none (fx, fy) (tx, ty) m n c w')
 simp only at HLK
 go_enter Tryz.func17, Tryz.ntmps17
 go_wp2_with (go_at_call 40; refine (HLK.out _ _ _ _).mono ?_; rintro e w1 ⟨rfl, hb1⟩; obtain ⟨hc1, hf1⟩ := hb1.cells; have hz1 := hb1.size; (repeat (first | rw [World.size_alloc] at hz1 | rw [World.size_drew] at hz1)); have z1_0 : w.heap.size < w1.heap.size := (by omega); have z1_1 : w.heap.size + 1 < w1.heap.size := (by omega); have z1_2 : w.heap.size + 1 + 1 < w1.heap.size := (by omega))
 refine bodyPost_ret (v := .tuple #[.slice none 0 0, .int .i64 2]) (by simp [results, Tryz.results17, go_sem, *]) rfl ?_
 exact ⟨rfl, (by (with_reducible (repeat' (first | exact z_r _ | assumption | refine z_d ?_ | refine z_n ?_ _ | refine z_a ?_ _ | refine z_s ?_ ?_ _ | refine z_t ?_ (by assumption)))); all_goals (simp <;> omega))⟩
theorem new_good {W H s : Int} {l : List Int} (hu : U16s l) (he : newE W H l.length s = 0) : Good W H s l := by
 unfold newE at he
 by_cases h0 : checkE W H l.length = 0
 ·rw [if_pos h0] at he
  by_cases hr2 : rightB W H s = true
  ·exact ⟨h0, hr2, hu⟩
  ·rw [if_neg hr2] at he; cases he
 ·rw [if_neg h0] at he; exact absurd he h0
end Go.Proofs.YtaellcgglldjaaaGreat

namespace Go.Proofs.YtaellcgglldjaaaGreat
open Go.RowKit
theorem lrun_full {G : LGr} {W : Int} {s t : Nat} {P : List Nat → List Cell} {A : AS} {p : List Cell} {c k e b : Int} (r : LRun G W t b P A p c k e) (I : LInv G s A) (hb : (G.n : Int) ≤ b) : (e = 0 ∨ e = 22) ∧ k ≤ G.n ∧ 0 ≤ k := by
 induction r with
 | none _ => exact ⟨.inr rfl, I.few.2, I.few.1⟩
 | full v hv hc => have := I.opens hv; omega
 | found hB _ _ => exact ⟨.inl rfl, by have := I.opens hB.1; omega, by have := I.few.1; omega⟩
 | next hB _ _ _ ih => exact ih (linv_step I hB.1)
theorem start_inv {W H s : Int} {l : List Int} (g : Good W H s l) (hl : l.length ≤ 150) {f t : Cell} (hf : inB W H f.1 f.2 = true) : LInv (hGr g hl f t) (idxN W f) (start0 (idxN W f)) := by
 have hfn : f ∈ nodesL W H (gatesA W H s l) f t := by
  have := inB_true.1 hf
  exact nodesL_mem.2 ⟨by omega, .inl rfl⟩
 exact linv_start ((opH_iff g).2 ⟨_, hfn, rfl⟩)
theorem start_cnt (s : Nat) : (start0 s).cnt = 0 := rfl
theorem hs_budget {W H s : Int} {l : List Int} {f t : Cell} {b : Int} {p p' : List Cell} {c c' k k' e e' : Int} (h : HSrch W H s l f t l.length p c k e) (h' : HSrch W H s l f t b p' c' k' e') :
  (e = 10 ∧ e' = 10 ∧ p' = [] ∧ k' = 0) ∨ (e ≠ 10 ∧ b < 0 ∧ e' = 1 ∧ p' = [] ∧ k' = 0) ∨ (e ≠ 10 ∧ ¬ b < 0 ∧ b < k ∧ e' = 23 ∧ p' = [] ∧ c' = 0 ∧ k' = b) ∨ (e ≠ 10 ∧ ¬ b < 0 ∧ ¬ b < k ∧ e' = e ∧ p' = p ∧ c' = c ∧ k' = k) := by
 rcases h with ⟨h1, rfl, rfl, rfl, rfl⟩ | ⟨h1, h2, rfl, rfl, rfl, rfl⟩ | ⟨h1, h2, h3, rfl, rfl, rfl, rfl⟩ | ⟨h1, h2, h3, g, hl, h4⟩
 ·rcases h' with ⟨k1, rfl, rfl, rfl, rfl⟩ | ⟨k1, k2, rfl, rfl, rfl, rfl⟩ | ⟨k1, k2, k3, rfl, rfl, rfl, rfl⟩ | ⟨k1, k2, k3, g', hl', k4⟩
  ·exact .inl ⟨rfl, rfl, rfl, rfl⟩
  all_goals exact absurd k1 h1
 ·exfalso; omega
 ·rcases h' with ⟨k1, rfl, rfl, rfl, rfl⟩ | ⟨k1, k2, rfl, rfl, rfl, rfl⟩ | ⟨k1, k2, k3, rfl, rfl, rfl, rfl⟩ | ⟨k1, k2, k3, g', hl', k4⟩
  ·exact absurd h1 k1
  ·exact .inr (.inl ⟨by omega, k2, rfl, rfl, rfl⟩)
  ·exact .inr (.inr (.inr ⟨by omega, by omega, by omega, rfl, rfl, rfl, rfl⟩))
  ·exact absurd h3 k3
 ·have hf := lrun_full h4 (start_inv g hl h1.1) (Int.le_refl _)
  have hW : 1 ≤ W := by have := mayB_true.1 (checkE_ok.1 g.ok).1; omega
  have he : e ≠ 10 ∧ e ≠ 23 := by have := hf.1; omega
  rcases h' with ⟨k1, rfl, rfl, rfl, rfl⟩ | ⟨k1, k2, rfl, rfl, rfl, rfl⟩ | ⟨k1, k2, k3, rfl, rfl, rfl, rfl⟩ | ⟨k1, k2, k3, g', hl', k4⟩
  ·exact absurd h1 k1
  ·exact .inr (.inl ⟨he.1, k2, rfl, rfl, rfl⟩)
  ·exact absurd k3 h3
  ·have hB := lrun_budget h4 he.2 (b := b) (by rw [start_cnt]; exact k2)
   by_cases hk : b < k
   ·obtain ⟨rfl, rfl, rfl, rfl⟩ := (hB.1 hk).one hW k4
    exact .inr (.inr (.inl ⟨he.1, by omega, hk, rfl, rfl, rfl, rfl⟩))
   ·obtain ⟨rfl, rfl, rfl, rfl⟩ := (hB.2 (by omega)).one hW k4
    exact .inr (.inr (.inr ⟨he.1, by omega, hk, rfl, rfl, rfl, rfl⟩))
theorem gates_few {W H s : Int} {l : List Int} (g : Good W H s l) (hl : l.length ≤ 150) : (gatesA W H s l).length ≤ 45000 := by
 have h1 : cnt W H s ≤ W * H := by
  obtain ⟨r1, r2, r3, r4, r5, r6⟩ := rightB_true.1 g.right
  have b1 := acr_bd W s r5 r6 r1 r2
  have b2 := acr_bd H s r5 r6 r3 r4
  have hle : ∀ L : Int, 1 ≤ L → acr L s ≤ L := fun L hL => by
   unfold acr
   apply Int.ediv_le_of_le_mul (by omega)
   have := Int.mul_nonneg (show (0 : Int) ≤ L - 1 by omega) (show (0 : Int) ≤ s - 1 by omega)
   rw [Int.sub_mul, Int.mul_sub] at this
   omega
  unfold cnt
  exact Int.mul_le_mul (hle W r1) (hle H r3) (by omega) (by omega)
 have h2 := (checkE_ok.1 g.ok).2
 have h3 := g.cnt
 have h4 := ofG_len (l := l) g.right (n := (cnt W H s).toNat) (by omega)
 unfold gatesA
 omega
theorem way_len {W H s : Int} {l : List Int} (g : Good W H s l) (hl : l.length ≤ 150) {f t a : Cell} (ha : inB W H a.1 a.2 = true) {q : Cell × Int} (h : q ∈ legsL W H s l (gatesA W H s l) f t a) : (wayB W H s l a q.1).length ≤ 150 := by
 obtain ⟨h1, _, _, _, h5⟩ := leg_ok g hl ha h
 rcases h5 with ⟨e, _, hd⟩ | ⟨e, _⟩
 ·unfold wayB
  rw [if_pos e]
  split
  ·next hx =>
   have hb := Classical.choose_spec (Classical.choose_spec hx)
   obtain ⟨L, hL⟩ := dist_is g ha
   rw [hL] at hd
   have F := farD_is (Classical.choose hx) a
   have hlt : farD (Classical.choose hx) a (idxN W q.1) < infI := by have := F.le (idxN W q.1); exact Std.lt_of_le_of_ne this hd
   have hfew : _ ≤ l.length := hb.few F hlt
   rw [List.length_drop, List.length_map, List.length_reverse]
   omega
  ·exact Nat.zero_le _
 ·rw [wayB_gate e, List.length_singleton]; omega
theorem pathT_len {came : Nat → Int} {wR : Nat → Nat → List Cell} {P : Nat → Prop} (hw : ∀ v u : Nat, P v → came v = (u : Int) → (wR u v).length ≤ 150 ∧ P u) {v : Nat} {ch : List Nat} (C : Chain came v ch) : ∀ acc, P v → (pathT wR acc ch).length ≤ acc.length + 150 * ch.length := by
 induction C with
 | stop _ => intro acc _; simp [pathT]
 | go hc C ih =>
  intro acc hP
  rename_i v u r
  obtain ⟨h1, h2⟩ := hw v u hP hc
  have hr : ∃ q, r = u :: q := by cases C <;> exact ⟨_, rfl⟩
  obtain ⟨q, rfl⟩ := hr
  have := ih (wR u v ++ acc) h2
  rw [List.length_append] at this
  simp only [pathT, List.length_cons] at this ⊢
  omega
theorem lrun_len {W H s : Int} {l : List Int} (g : Good W H s l) (hl : l.length ≤ 150) {f t : Cell} (hf : inB W H f.1 f.2 = true) {v : Nat} {b : Int} {A : AS} {p : List Cell} {c k e : Int} (r : LRun (hGr g hl f t) W v b (pathH W H s l f) A p c k e) (I : LInv (hGr g hl f t) (idxN W f) A) : p.length ≤ 22501 := by
 induction r with
 | none _ => exact Nat.zero_le _
 | full _ _ _ => exact Nat.zero_le _
 | found hB hn0 hc =>
  rename_i A ch
  have h0 : A.st v ≠ 0 := by rw [hB.1]; decide
  obtain ⟨ch', c1, c2, c3⟩ := lchain_ex I (A.g v).toNat v (by have := I.bd v h0; omega) h0
  obtain rfl := hc.one c1
  have hll : ch.length ≤ l.length := nodup_le c3 (fun u hu => (hGr g hl f t).lt u (I.op u (c2 u hu).1))
  have := pathT_len (P := fun v => A.st v ≠ 0) (wR := fun u v => wayB W H s l (cellV W u) (cellV W v)) (fun v u hv hcm => by
   have hs : v ≠ idxN W f := fun e => by subst e; rw [I.sc] at hcm; omega
   obtain ⟨u', x, u1, u2, u3, _⟩ := I.back v hv hs
   obtain rfl : u = u' := by omega
   refine ⟨?_, by omega⟩
   have hu := (in_v g ((hGr g hl f t).lt u (I.op u (by omega)))).1
   obtain ⟨q, hq, he⟩ := List.mem_map.1 u3
   have hin := node_in g (leg_ok g hl hu hq).1
   have e1 : idxN W q.1 = v := congrArg Prod.fst he
   rw [← e1, cellV_idx hin]
   exact way_len g hl hu hq) hc [] h0
  show (f :: _).length ≤ _
  rw [List.length_cons]
  simp only [List.length_nil] at this
  omega
 | next hB _ _ _ ih => exact ih (linv_step I hB.1)
theorem hs_len {W H s : Int} {l : List Int} {f t : Cell} {b : Int} {p : List Cell} {c k e : Int} (h : HSrch W H s l f t b p c k e) : p.length ≤ 22501 := by
 rcases h with ⟨_, rfl, _⟩ | ⟨_, _, rfl, _⟩ | ⟨_, _, _, rfl, _⟩ | ⟨h1, _, _, g, hl, h4⟩
 ·exact Nat.zero_le _
 ·exact Nat.zero_le _
 ·exact Nat.zero_le _
 ·exact lrun_len g hl h1.1 h4 (start_inv g hl h1.1)
end Go.Proofs.YtaellcgglldjaaaGreat

