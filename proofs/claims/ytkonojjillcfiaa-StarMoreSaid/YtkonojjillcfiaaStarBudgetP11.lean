/- Part 11 of 14 of the proof of StarBudget. -/
import Derived.Test.YtkonojjillcfiaaStarBudgetP10
import Derived.Test.YtkonojjillcfiaaStarBudgetP07
import Derived.Test.YtkonojjillcfiaaStarBudgetP01
import Derived.ProofKit
import Derived.OpenShut
import Derived.ShutString
import Derived.ChangeOld
import Derived.Deep.Slices
set_option linter.all false
set_option linter.unusedVariables false
set_option linter.unusedSimpArgs false
/- Walk of star.Find, where nothing is refused. -/
namespace Go.Proofs.Ytkonojjillcfiaa
open Go.RowKit

def none0 : AS := { st := fun _ => 0, g := fun _ => 0, came := fun _ => 0, cnt := 0 }
theorem put_start (s : Nat) : none0.put s 0 (-1) = start0 s := by
  unfold none0 AS.put start0
  congr 1
  funext v
  unfold updI
  split <;> rfl
theorem whole_of {W H : Int} {n : Nat} {x y tx ty b : Int} (h : findE W H n x y tx ty b = 0) : lookE W H n 0 0 W H x y = 0 ∧ lookE W H n 0 0 W H tx ty = 0 ∧ 0 ≤ b := by
  obtain ⟨h1, h2, h3, h4⟩ := findE_ok.1 h
  obtain ⟨hm, hl⟩ := checkE_ok.1 h1
  have a := mayB_true.1 hm
  have i1 := inB_true.1 h2
  have i2 := inB_true.1 h3
  exact ⟨lookE_ok.2 ⟨hm, hl, fitsR_true.2 (by omega), hasB_true.2 (by omega)⟩, lookE_ok.2 ⟨hm, hl, fitsR_true.2 (by omega), hasB_true.2 (by omega)⟩, h4⟩

/-- A search before its first step. -/
def FreshS (w wx : World) (W H : Int) (a : Option Addr) (n c : Nat) (tx ty : Int) (sb : Nat) : Prop :=
  ∃ h mg mc, w.heap.size ≤ sb ∧ w.heap.size ≤ mg ∧ w.heap.size ≤ mc ∧ SMem wx sb W H a n c tx ty h mg mc 0 (fun j => w.heap.size ≤ j ∧ j ≠ sb ∧ j ≠ mg ∧ j ≠ mc) (fun _ => ((0, 0), (0, 0))) none0 0

theorem fresh_of {w w0 w1 wx : World} {W H : Int} {a : Option Addr} {n c : Nat} {tx ty : Int} {sb h mg mc : Nat} (hb : SeaAt wx sb W H a n c tx ty h mg mc 0) (h0 : w.heap.size ≤ w0.heap.size) (hh : HeapIs (fun k => w0.heap.size ≤ k) w1 h []) (h1 : Ext w1 wx)
    (hg : MapIn Try.prog KU wx mg (fun _ => none) 0) (hc : MapIn Try.prog KM wx mc (fun _ => none) 0) (hs : w.heap.size ≤ sb ∧ w.heap.size ≤ mg ∧ w.heap.size ≤ mc) (ns : (sb < w0.heap.size ∨ w1.heap.size ≤ sb) ∧ (mg < w0.heap.size ∨ w1.heap.size ≤ mg) ∧ (mc < w0.heap.size ∨ w1.heap.size ≤ mc)) (ne : sb ≠ mg ∧ sb ≠ mc ∧ mg ≠ mc) : FreshS w wx W H a n c tx ty sb := by
  refine ⟨h, mg, mc, hs.1, hs.2.1, hs.2.2, ?_⟩
  have zb := Blk.lt hb
  have zg := hg.lt
  have zc := hc.lt
  exact {
    sea := hb
    gm := ⟨0, Nat.le_refl _, hg.congr (fun z => by unfold gF none0; simp)⟩
    cm := ⟨0, Nat.le_refl _, hc.congr (fun z => by unfold cF none0; simp)⟩
    heap := ⟨[], (hh.mono (S' := fun j => w.heap.size ≤ j ∧ j ≠ sb ∧ j ≠ mg ∧ j ≠ mc) (fun k hk hS => ⟨by omega, by omega, by omega, by omega⟩)).ext h1, ⟨by simp [ids], (fun t ht => by cases ht), (fun v hv => by unfold none0 at hv; cases hv)⟩⟩
    ns := ⟨fun y => y.2.1 rfl, fun y => y.2.2.1 rfl, fun y => y.2.2.2 rfl, ne.1, ne.2.1, ne.2.2⟩
    nw := fun j hj => ⟨by have := Blk.lt hb; omega, by omega, by omega, by omega⟩ }
theorem made2 {K : MapK} {w wx : World} {b : Nat} (hb : b = w.heap.size) (hx : Ext (w.alloc (.map #[] 0)) wx) : MapIn Try.prog K wx b (fun _ => none) 0 := by
  subst hb
  exact (MapIn.made w).ext hx
theorem SMem.anyK {w : World} {sb : Nat} {W H : Int} {a : Option Addr} {n c : Nat} {tx ty : Int} {h mg mc : Nat} {k : Int} {S : Nat → Prop} {K K' : Nat → HKey} {M : Nat} (m : SMem w sb W H a n c tx ty h mg mc k S K none0 M) : SMem w sb W H a n c tx ty h mg mc k S K' none0 M := by
  have hx : ∃ ts, HeapIs S w h ts ∧ HQ K' none0 ts := by
    obtain ⟨ts, h1, h2⟩ := m.heap
    have hts : ts = [] := by
      cases ts with
      | nil => rfl
      | cons t r => obtain ⟨v, _, h3⟩ := h2.thing t List.mem_cons_self; cases h3
    subst hts
    exact ⟨[], h1, ⟨by simp [ids], (fun t ht => by cases ht), (fun v hv => by unfold none0 at hv; cases hv)⟩⟩
  exact { m with heap := hx }

set_option maxRecDepth 100000 in
set_option maxHeartbeats 2000000 in
theorem sFind_any {w : World} {W H : Int} {a : Option Addr} {l : List Int} (c : Nat) {x y tx ty b : Int} (he : findE W H l.length x y tx ty b = 0) (hr : Row16 w a l) (hu : U16s l) :
    Calls Try.prog 29 #[.agg #[.int .i64 W, .int .i64 H, .slice a l.length c], .agg #[.int .i64 x, .int .i64 y], .agg #[.int .i64 tx, .int .i64 ty], .int .i64 b] w fun e w' => Ext w w' ∧
      (((mapNet (landP_of (whole_of he).1 hu)).op (idxN W (x, y)) = true ∧ (mapNet (landP_of (whole_of he).1 hu)).op (idxN W (tx, ty)) = true) → RunEnds (mapNet (landP_of (whole_of he).1 hu)) W (fun v => manh (vx W v) (vy W v) (vx W (idxN W (tx, ty))) (vy W (idxN W (tx, ty)))) (idxN W (tx, ty)) b (start0 (idxN W (x, y))) w.heap.size e w') ∧
      (¬ ((mapNet (landP_of (whole_of he).1 hu)).op (idxN W (x, y)) = true ∧ (mapNet (landP_of (whole_of he).1 hu)).op (idxN W (tx, ty)) = true) → e = .returned (.tuple #[.agg #[.slice none 0 0, .int .u64 0, .int .i64 0], .int .i64 22])) := by
  have hmm := @run_makeMap Try.prog
  have HC := hide (fun w' => gCheck_any W H a l.length c w')
  have H1 := hide (fun w' => in_any W H x y w')
  have H2 := hide (fun w' => in_any W H tx ty w')
  obtain ⟨e1, e2, e3, e4⟩ := findE_ok.1 he
  obtain ⟨ab, aoff, ha, hab, _⟩ := cost_cell hr (checkE_ok.1 e1).2 (inB_true.1 e2).2.2.2.2.1 (inB_true.1 e2).2.2.2.2.2.1 (inB_true.1 e2).2.2.2.2.2.2.1 (inB_true.1 e2).2.2.2.2.2.2.2
  subst ha
  rw [e1] at HC
  rw [e2] at H1
  rw [e3] at H2
  have hb' : decide (b < 0) = false := by simpa using e4
  have HL := hide (landP_of (whole_of he).1 hu)
  have HHas := hide (And.intro (lookE_ok.1 (whole_of he).1).2.2.2 (lookE_ok.1 (whole_of he).2.1).2.2.2)
  obtain ⟨G, hG⟩ : ∃ G, mapNet HL.out = G := ⟨_, rfl⟩
  have HG := hide hG
  rw [show mapNet (landP_of (whole_of he).1 hu) = G from hG]
  obtain ⟨s, hs⟩ : ∃ s, idxN W (x, y) = s := ⟨_, rfl⟩
  obtain ⟨t, ht⟩ : ∃ t, idxN W (tx, ty) = t := ⟨_, rfl⟩
  have HSX := hide hs
  have HTX := hide ht
  rw [hs, ht]
  have HR := hide hr
  obtain ⟨n, hn⟩ : ∃ n, l.length = n := ⟨_, rfl⟩
  have HN := hide hn
  rw [hn] at HC
  rw [hn]
  have HE4 := hide e4
  clear hs ht hG e1 e2 e3 e4 he hr hu hn
  go_enter Try.func29, Try.ntmps29
  go_wp2_with fail
  refine (HC.out _).mono ?_
  rintro e w1 ⟨rfl, hb1⟩
  obtain ⟨hc1, hf1⟩ := hb1.cells; have hz1 := hb1.size; (repeat (first | rw [World.size_alloc] at hz1 | rw [World.size_drew] at hz1)); have z1_0 : w.heap.size < w1.heap.size := (by omega); have z1_1 : w.heap.size + 1 < w1.heap.size := (by omega); have z1_2 : w.heap.size + 2 < w1.heap.size := (by omega); have z1_3 : w.heap.size + 3 < w1.heap.size := (by omega)
  go_wp2_with fail
  refine (H1.out _).mono ?_
  rintro e w2 ⟨rfl, hb2⟩
  obtain ⟨hc2, hf2⟩ := hb2.cells; have hz2 := hb2.size; (repeat (first | rw [World.size_alloc] at hz2 | rw [World.size_drew] at hz2)); have z2_0 : w.heap.size < w2.heap.size := (by omega); have z2_1 : w.heap.size + 1 < w2.heap.size := (by omega); have z2_2 : w.heap.size + 2 < w2.heap.size := (by omega); have z2_3 : w.heap.size + 3 < w2.heap.size := (by omega)
  go_wp2_with fail
  refine (H2.out _).mono ?_
  rintro e w3 ⟨rfl, hb3⟩
  have BF : Hid (Blk w3 (w.heap.size) 26 #[.int .i64 W, .int .i64 H, .slice (some ⟨ab, aoff, none⟩) n c]) := hide (by refine Blk.ext ?_ ((hb1.trans hb2).trans hb3); (repeat' (first | exact Blk.new_ (by simp) | refine Blk.drew ?_ | refine Blk.over ?_)))
  have BO : Hid (Blk w3 (w.heap.size + 1) 49 #[.int .i64 x, .int .i64 y]) := hide (by refine Blk.ext ?_ ((hb1.trans hb2).trans hb3); (repeat' (first | exact Blk.new_ (by simp) | refine Blk.drew ?_ | refine Blk.over ?_)))
  have BT : Hid (Blk w3 (w.heap.size + 2) 49 #[.int .i64 tx, .int .i64 ty]) := hide (by refine Blk.ext ?_ ((hb1.trans hb2).trans hb3); (repeat' (first | exact Blk.new_ (by simp) | refine Blk.drew ?_ | refine Blk.over ?_)))
  have BR : Hid (Blk w3 (w.heap.size + 3) 61 #[.slice none 0 0, .int .u64 0, .int .i64 0]) := hide (by refine Blk.ext ?_ ((hb1.trans hb2).trans hb3); (repeat' (first | exact Blk.new_ (by simp) | refine Blk.drew ?_ | refine Blk.over ?_)))
  have hx3 : Ext w w3 := (by (with_reducible (repeat' (first | exact Ext.refl _ | assumption | refine Ext.drew ?_ | refine Ext.drewN ?_ _ | refine Ext.alloc ?_ _ | refine Ext.setCell ?_ ?_ _ | refine Ext.trans ?_ (by assumption)))); all_goals (first | (simp; done) | (simp; omega)))
  have hz3 : w.heap.size + 4 ≤ w3.heap.size := by have := hb2.size; have := hb3.size; omega
  have HX3 := hide hx3
  have B0 : w3.cell? ⟨w.heap.size, 0, none⟩ = some (.int .i64 W) := BF.out.at 0 rfl
  have B1 : w3.cell? ⟨w.heap.size, 1, none⟩ = some (.int .i64 H) := BF.out.at 1 rfl
  have B2 : w3.cell? ⟨w.heap.size, 2, none⟩ = some (.slice (some ⟨ab, aoff, none⟩) n c) := BF.out.at 2 rfl
  have T0 : w3.cell? ⟨w.heap.size + 2, 0, none⟩ = some (.int .i64 tx) := BT.out.at 0 rfl
  have T1 : w3.cell? ⟨w.heap.size + 2, 1, none⟩ = some (.int .i64 ty) := BT.out.at 1 rfl
  have zf : w.heap.size < w3.heap.size := by omega
  have zt : w.heap.size + 2 < w3.heap.size := by omega
  clear hc1 hc2 hf1 hf2 hb1 hb2 hb3 hz1 hz2 z1_0 z1_1 z1_2 z1_3 z2_0 z2_1 z2_2 z2_3 hx3 HC H1 H2
  go_upto_region 8 with (fail)
  go_cut [11] (fun s11 wx => ∃ sb, s11 = .pointer (some ⟨sb, 0, none⟩) ∧ FreshS w3 wx W H (some ⟨ab, aoff, none⟩) n c tx ty sb ∧ Ext w3 wx)
  case rest =>
    obtain ⟨sb, rfl, hF, hxw⟩ := hcut
    have BF2 := hide (Blk.ext BF.out hxw)
    have BO2 := hide (Blk.ext BO.out hxw)
    have BT2 := hide (Blk.ext BT.out hxw)
    have BR2 := hide (Blk.ext BR.out hxw)
    have HXW := hide (HX3.out.trans hxw)
    have hzw := hxw.size
    clear hxw B0 B1 B2 T0 T1 BF BO BT BR zf zt hmm
    obtain ⟨h, mg, mc, s1, s2, s3, m⟩ := hF
    have M := hide m
    clear m
    have i1 := hasB_true.1 HHas.out.1
    have i2 := hasB_true.1 HHas.out.2
    have HCO := hide (fun (w' : World) (hx : Ext wc w') (u v : Int) (h1 : 0 ≤ u ∧ u < W ∧ 0 ≤ v ∧ v < H) => sCost_any (w := w') (sb := sb) (W := W) (H := H) (l := l) (c := c) (tx := tx) (ty := ty) (h := h) (mg := mg) (mc := mc) (k := 0) (by rw [HN.out]; exact Blk.ext M.out.sea hx) HL.out.may HL.out.len (HR.out.ext (HXW.out.trans hx)) HL.out.u16 u v h1.1 h1.2.1 h1.2.2.1 h1.2.2.2)
    have HC1 := hide (fun (w' : World) (hx : Ext wc w') => HCO.out w' hx x y (by omega))
    have HC2 := hide (fun (w' : World) (hx : Ext wc w') => HCO.out w' hx tx ty (by omega))
    clear HCO
    have o0 : wc.cell? ⟨w.heap.size + 1, 0, none⟩ = some (.int .i64 x) := BO2.out.at 0 rfl
    have o1 : wc.cell? ⟨w.heap.size + 1, 1, none⟩ = some (.int .i64 y) := BO2.out.at 1 rfl
    have zo : w.heap.size + 1 < wc.heap.size := by omega
    have zt : w.heap.size + 2 < wc.heap.size := by omega
    have hop1 : G.op s = decide (0 < costI l W (x, y)) := by
      rw [← HG.out, ← HSX.out]
      show opV _ _ _ _ = _
      rw [HL.out.opV_idx (by omega)]
      unfold openB
      rw [HHas.out.1]
      simp
    have hop2 : G.op t = decide (0 < costI l W (tx, ty)) := by
      rw [← HG.out, ← HTX.out]
      show opV _ _ _ _ = _
      rw [HL.out.opV_idx (by omega)]
      unfold openB
      rw [HHas.out.2]
      simp
    have HO1 := hide hop1
    have HO2 := hide hop2
    have bd1 := costI_bd HL.out.u16 W (x, y)
    have bd2 := costI_bd HL.out.u16 W (tx, ty)
    generalize costI l W (x, y) = c1 at *
    generalize costI l W (tx, ty) = c2 at *
    clear hop1 hop2
    by_cases hz1 : c1 = 0
    · subst hz1
      have hno : ¬ (G.op s = true ∧ G.op t = true) := fun y => by have := HO1.out; rw [y.1] at this; simp at this
      have HNO := hide hno
      clear hno
      go_wp2_with fail
      refine (HC1.out _ (Ext.refl _)).mono ?_
      rintro e w5 ⟨rfl, hx5⟩
      have BR5 := hide (Blk.ext BR2.out hx5)
      have r0 : w5.cell? ⟨w.heap.size + 3, 0, none⟩ = some (.slice none 0 0) := BR5.out.at 0 rfl
      have r1 : w5.cell? ⟨w.heap.size + 3, 1, none⟩ = some (.int .u64 0) := BR5.out.at 1 rfl
      have r2 : w5.cell? ⟨w.heap.size + 3, 2, none⟩ = some (.int .i64 0) := BR5.out.at 2 rfl
      have f0 := BR5.out.frozen 0
      have f1 := BR5.out.frozen 1
      have f2 := BR5.out.frozen 2
      go_wp2_with fail
      have hx05 : Ext w w5 := HXW.out.trans hx5
      clear hx5
      exact bodyPost_ret (v := .tuple #[.agg #[.slice none 0 0, .int .u64 0, .int .i64 0], .int .i64 22]) (by simp [results, Try.results29, go_sem, *]) rfl ⟨(by (with_reducible (repeat' (first | exact Ext.refl _ | assumption | refine Ext.drew ?_ | refine Ext.drewN ?_ _ | refine Ext.alloc ?_ _ | refine Ext.setCell ?_ ?_ _ | refine Ext.trans ?_ (by assumption)))); all_goals (first | (simp; done) | (simp; omega))), (fun hh => absurd hh HNO.out), fun _ => rfl⟩
    · have hq1 : (c1 == 0) = false := by simpa using hz1
      by_cases hz2 : c2 = 0
      · subst hz2
        have hno : ¬ (G.op s = true ∧ G.op t = true) := fun y => by have := HO2.out; rw [y.2] at this; simp at this
        have HNO := hide hno
        clear hno
        go_wp2_with fail
        refine (HC1.out _ (Ext.refl _)).mono ?_
        rintro e w4 ⟨rfl, hx4⟩
        have t0 : w4.cell? ⟨w.heap.size + 2, 0, none⟩ = some (.int .i64 tx) := (Blk.ext BT2.out hx4).at 0 rfl
        have t1 : w4.cell? ⟨w.heap.size + 2, 1, none⟩ = some (.int .i64 ty) := (Blk.ext BT2.out hx4).at 1 rfl
        go_wp2_with fail
        refine (HC2.out _ hx4).mono ?_
        rintro e w5 ⟨rfl, hx45⟩
        have hx5 := hx4.trans hx45
        clear hx4 hx45 t0 t1
        have BR5 := hide (Blk.ext BR2.out hx5)
        have r0 : w5.cell? ⟨w.heap.size + 3, 0, none⟩ = some (.slice none 0 0) := BR5.out.at 0 rfl
        have r1 : w5.cell? ⟨w.heap.size + 3, 1, none⟩ = some (.int .u64 0) := BR5.out.at 1 rfl
        have r2 : w5.cell? ⟨w.heap.size + 3, 2, none⟩ = some (.int .i64 0) := BR5.out.at 2 rfl
        have f0 := BR5.out.frozen 0
        have f1 := BR5.out.frozen 1
        have f2 := BR5.out.frozen 2
        go_wp2_with fail
        have hx05 : Ext w w5 := HXW.out.trans hx5
        clear hx5
        exact bodyPost_ret (v := .tuple #[.agg #[.slice none 0 0, .int .u64 0, .int .i64 0], .int .i64 22]) (by simp [results, Try.results29, go_sem, *]) rfl ⟨(by (with_reducible (repeat' (first | exact Ext.refl _ | assumption | refine Ext.drew ?_ | refine Ext.drewN ?_ _ | refine Ext.alloc ?_ _ | refine Ext.setCell ?_ ?_ _ | refine Ext.trans ?_ (by assumption)))); all_goals (first | (simp; done) | (simp; omega))), (fun hh => absurd hh HNO.out), fun _ => rfl⟩
      · have hq2 : (c2 == 0) = false := by simpa using hz2
        have hs := HSX.out
        have ht := HTX.out
        have vs : vx W s = x ∧ vy W s = y := by rw [← hs]; exact ⟨vx_idx i1.1 (by omega) i1.2.2.1, vy_idx i1.1 (by omega) i1.2.2.1⟩
        have vt : vx W t = tx ∧ vy W t = ty := by rw [← ht]; exact ⟨vx_idx i2.1 (by omega) i2.2.2.1, vy_idx i2.1 (by omega) i2.2.2.1⟩
        have hos : G.op s = true := by rw [HO1.out]; simp; omega
        have hot : G.op t = true := by rw [HO2.out]; simp; omega
        have hsn := HL.out.idx_lt (x := x) (y := y) (by omega)
        have htn := HL.out.idx_lt (x := tx) (y := ty) (by omega)
        rw [hs, HN.out] at hsn
        rw [ht, HN.out] at htn
        have wh := HL.out.wh
        rw [HN.out] at wh
        obtain ⟨S, hS⟩ : ∃ S : Nat → Prop, (fun j => w3.heap.size ≤ j ∧ j ≠ sb ∧ j ≠ mg ∧ j ≠ mc) = S := ⟨_, rfl⟩
        have HSS := hide (fun j => (congrFun hS j).symm)
        rw [hS] at M
        have HRE := hide (fun (w' : World) (hx : Ext wc w') => sReach_new (A := none0) (fun v => manh (vx W v) (vy W v) tx ty) ((M.out.anyK (K' := kOf W (fun v => manh (vx W v) (vy W v) tx ty) none0)).ext hx) (by omega) (v := s) (by rw [vs.1, vs.2]; omega) (by omega) (by omega) (by omega) (by omega) rfl (fun u hu => absurd rfl hu) 0 (-1) (by omega) (by omega) rfl)
        rw [vs.1, vs.2, put_start] at HRE
        obtain ⟨D, F⟩ := far_ex (mapNet HL.out) s (by rw [HG.out]; exact hos)
        have HRU := hide (fun (w' : World) m hr' hab' => sRun_any (w := w') (sb := sb) (W := W) (H := H) (ab := ab) (aoff := aoff) (l := l) (c := c) (h := h) (mg := mg) (mc := mc) (S := S) (A0 := start0 s) (M0 := 1) (s := s) (t := t) HL.out F (sinv_start (by rw [HG.out]; exact hos) F) (by rw [HG.out]; exact hot) rfl (by omega) m hr' hab' b)
        rw [HN.out, HG.out, vt.1, vt.2] at HRU
        have HYES := hide (And.intro hos hot)
        have HVT := hide vt
        have HW7 : Hid (∀ k, (S k ∨ k = sb ∨ k = mg ∨ k = mc) → w3.heap.size ≤ k) := hide (fun k y => by
          rw [HSS.out] at y
          rcases y with y | y | y | y <;> omega)
        have o0' := o0
        clear hos hot hs ht hS F vs hsn htn o0' vt
        go_wp2_with fail
        refine (HC1.out _ (Ext.refl _)).mono ?_
        rintro e w4 ⟨rfl, hx4⟩
        have t0 : w4.cell? ⟨w.heap.size + 2, 0, none⟩ = some (.int .i64 tx) := (Blk.ext BT2.out hx4).at 0 rfl
        have t1 : w4.cell? ⟨w.heap.size + 2, 1, none⟩ = some (.int .i64 ty) := (Blk.ext BT2.out hx4).at 1 rfl
        go_wp2_with fail
        refine (HC2.out _ hx4).mono ?_
        rintro e w5 ⟨rfl, hx45⟩
        have hx5 := hx4.trans hx45
        have HX5 := hide hx5
        have o05 : w5.cell? ⟨w.heap.size + 1, 0, none⟩ = some (.int .i64 x) := (Blk.ext BO2.out hx5).at 0 rfl
        have o15 : w5.cell? ⟨w.heap.size + 1, 1, none⟩ = some (.int .i64 y) := (Blk.ext BO2.out hx5).at 1 rfl
        clear hx4 hx45 t0 t1 hx5
        go_wp2_with fail
        refine (HRE.out _ HX5.out).mono ?_
        rintro e w6 ⟨rfl, m6, t6⟩
        have T6 := hide t6
        have M6 := hide m6
        have hzx6 := t6.size
        have hzx5 := HX5.out.size
        have BR5 := hide (Blk.ext BR2.out HX5.out)
        have HX05 := hide (HXW.out.trans HX5.out)
        have hrow6 : Row16 w6 (some ⟨ab, aoff, none⟩) l := (HR.out.ext HX05.out).touch t6 (fun b0 o e => by cases e; exact fun y => by have := HW7.out ab (y.elim .inl (fun z => .inr (.inr z))); omega)
        have hab6 : ¬ S ab ∧ ab ≠ sb ∧ ab ≠ mg ∧ ab ≠ mc ∧ ab < w6.heap.size := ⟨fun y => by have := HW7.out ab (.inl y); omega, fun y => by have := HW7.out ab (.inr (.inl y)); omega, fun y => by have := HW7.out ab (.inr (.inr (.inl y))); omega, fun y => by have := HW7.out ab (.inr (.inr (.inr y))); omega, by have := HX05.out.size; omega⟩
        have BR6 := hide (BR5.out.touch t6 (fun y => by have := HW7.out _ (y.elim .inl (fun z => .inr (.inr z))); omega))
        have HRUN := hide (HRU.out w6 M6.out hrow6 hab6)
        clear t6 m6 hrow6 hab6 HRU
        go_wp2_with fail
        refine HRUN.out.mono ?_
        rintro e w7 ⟨⟨p, cc, k, er, v, hrun, rfl, hown⟩, t7⟩
        have HA := hide hrun
        have HO := hide hown
        have T7 := hide t7
        have hzx7 := t7.size
        have BR7 := hide (BR6.out.touch t7 (fun y => by have := HW7.out _ y; omega))
        have HXX : Hid (Ext w w7) := hide (((Touch.of_ext (S := fun _ => False) HX05.out).after T6.out (fun j hj y => by have := HW7.out j (y.elim .inl (fun z => .inr (.inr z))); omega)).after T7.out (fun j hj y => by have := HW7.out j y; omega)).ext
        have HZB : Hid (w.heap.size ≤ w6.heap.size) := hide (by omega)
        have HZ36 : Hid (w.heap.size + 4 ≤ w6.heap.size) := hide (by have := HX05.out.size; omega)
        have HRE2 : Hid (RunEnds G W (fun v => manh (vx W v) (vy W v) (vx W t) (vy W t)) t b (start0 s) w.heap.size (.returned (.tuple #[.agg #[v, .int .u64 cc, .int .i64 k], .int .i64 er])) w7) := hide (by
          rw [HVT.out.1, HVT.out.2]
          exact ⟨p, cc, k, er, v, HA.out, rfl, HO.out.lower HZB.out⟩)
        have r0 : w7.cell? ⟨w.heap.size + 3, 0, none⟩ = some (.slice none 0 0) := BR7.out.at 0 rfl
        have r1 : w7.cell? ⟨w.heap.size + 3, 1, none⟩ = some (.int .u64 0) := BR7.out.at 1 rfl
        have r2 : w7.cell? ⟨w.heap.size + 3, 2, none⟩ = some (.int .i64 0) := BR7.out.at 2 rfl
        have f0 := BR7.out.frozen 0
        have f1 := BR7.out.frozen 1
        have f2 := BR7.out.frozen 2
        have HFIN : Hid (∀ w', Touch (fun j => j = w.heap.size + 3) w7 w' → Ext w w' ∧ RunEnds G W (fun v => manh (vx W v) (vy W v) (vx W t) (vy W t)) t b (start0 s) w.heap.size (.returned (.tuple #[.agg #[v, .int .u64 cc, .int .i64 k], .int .i64 er])) w') := hide (fun w' tt => ⟨((Touch.of_ext (S := fun _ => False) HXX.out).after tt (fun j hj e => by omega)).ext, by
          obtain ⟨p', cc', k', er', v', a1, a2, a3⟩ := HRE2.out
          injection a2 with a2
          refine ⟨p', cc', k', er', v', a1, congrArg _ a2, Own.touch a3 tt (fun j hj e => ?_)⟩
          injection a2 with a2
          injection a2 with a2
          injection a2 with a2 _
          injection a2 with a2
          injection a2 with a2
          injection a2 with a2 _
          subst a2
          have := (own_lt HO.out hj).1
          have := HZ36.out
          omega⟩)
        clear hrun hown t7 HA
        obtain ⟨va, vc, rfl⟩ := HO.out.slice
        rw [show (p.map (cellV W)).length = p.length from List.length_map _] at HFIN ⊢
        have tF : Touch (fun j => j = w.heap.size + 3) w7 (((w7.setCell ⟨w.heap.size + 3, 0, none⟩ (.slice va p.length vc)).setCell ⟨w.heap.size + 3, 1, none⟩ (.int .u64 cc)).setCell ⟨w.heap.size + 3, 2, none⟩ (.int .i64 k)) := (((Touch.refl (fun j => j = w.heap.size + 3) w7).setCell (p := ⟨w.heap.size + 3, 0, none⟩) (.inl rfl) _).setCell (p := ⟨w.heap.size + 3, 1, none⟩) (.inl rfl) _).setCell (p := ⟨w.heap.size + 3, 2, none⟩) (.inl rfl) _
        have TF := hide tF
        clear tF
        have HV2 := hide (And.intro HVT.out HYES.out)
        go_wp2_with fail
        exact bodyPost_ret (v := .tuple #[.agg #[.slice va p.length vc, .int .u64 cc, .int .i64 k], .int .i64 er]) (by simp [results, Try.results29, go_sem, *]) rfl ⟨(HFIN.out _ TF.out).1, (fun _ => (HFIN.out _ TF.out).2), fun h => absurd HYES.out h⟩
  go_region_held3 (fun W => (∀ b o, b < w3.heap.size → W.cell? ⟨b, o, none⟩ = w3.cell? ⟨b, o, none⟩) ∧ Ext w3 W) (first | with_reducible exact pr_start _ | exact pr_of (by (with_reducible (repeat' (first | exact Ext.refl _ | assumption | refine Ext.drew ?_ | refine Ext.drewN ?_ _ | refine Ext.alloc ?_ _ | refine Ext.setCell ?_ ?_ _ | refine Ext.trans ?_ (by assumption)))); all_goals (first | (simp; done) | (simp; omega))))
    (first | (go_at_call 63; refine (hNew_any _).mono ?_; rintro e w4 ⟨h4, rfl, hh4, hb4, hi4⟩; have HI4 := hide hi4; have HB4 := hide hb4; have hz4 := hb4.size; clear hi4))
  all_goals (simp only [World.size_alloc, World.size_drew] at hz4; rename_i hS; have hSx := hide hS.2; clear hS; go_wp2_with fail; go_meet; refine ⟨_, rfl, ?_, hSx.out⟩; apply fresh_of (w := w3) (w1 := w4) (hh := HI4.out); (case hb => unfold SeaAt; exact Blk.new_ (by simp)); (case h1 => exact (by (with_reducible (repeat' (first | exact Ext.refl _ | assumption | refine Ext.drew ?_ | refine Ext.drewN ?_ _ | refine Ext.alloc ?_ _ | refine Ext.setCell ?_ ?_ _ | refine Ext.trans ?_ (by assumption)))); all_goals (first | (simp; done) | (simp; omega)))); (case h0 => (first | with_reducible rfl | omega | (simp only [World.size_alloc, World.size_drew]; done) | (simp only [World.size_alloc, World.size_drew]; omega))); (case hg => first | (refine made2 (w := w3) ?_ ?_; (· (first | with_reducible rfl | omega | (simp only [World.size_alloc, World.size_drew]; done) | (simp only [World.size_alloc, World.size_drew]; omega))); (· exact (by (with_reducible (repeat' (first | exact Ext.refl _ | assumption | refine Ext.drew ?_ | refine Ext.drewN ?_ _ | refine Ext.alloc ?_ _ | refine Ext.setCell ?_ ?_ _ | refine Ext.trans ?_ (by assumption)))); all_goals (first | (simp; done) | (simp; omega))))) | (refine made2 (w := w4) ?_ ?_; (· (first | with_reducible rfl | omega | (simp only [World.size_alloc, World.size_drew]; done) | (simp only [World.size_alloc, World.size_drew]; omega))); (· exact (by (with_reducible (repeat' (first | exact Ext.refl _ | assumption | refine Ext.drew ?_ | refine Ext.drewN ?_ _ | refine Ext.alloc ?_ _ | refine Ext.setCell ?_ ?_ _ | refine Ext.trans ?_ (by assumption)))); all_goals (first | (simp; done) | (simp; omega))))) | (refine made2 (w := w3.alloc (.map #[] 0)) ?_ ?_; (· (first | with_reducible rfl | omega | (simp only [World.size_alloc, World.size_drew]; done) | (simp only [World.size_alloc, World.size_drew]; omega))); (· exact (by (with_reducible (repeat' (first | exact Ext.refl _ | assumption | refine Ext.drew ?_ | refine Ext.drewN ?_ _ | refine Ext.alloc ?_ _ | refine Ext.setCell ?_ ?_ _ | refine Ext.trans ?_ (by assumption)))); all_goals (first | (simp; done) | (simp; omega))))) | (refine made2 (w := w4.alloc (.map #[] 0)) ?_ ?_; (· (first | with_reducible rfl | omega | (simp only [World.size_alloc, World.size_drew]; done) | (simp only [World.size_alloc, World.size_drew]; omega))); (· exact (by (with_reducible (repeat' (first | exact Ext.refl _ | assumption | refine Ext.drew ?_ | refine Ext.drewN ?_ _ | refine Ext.alloc ?_ _ | refine Ext.setCell ?_ ?_ _ | refine Ext.trans ?_ (by assumption)))); all_goals (first | (simp; done) | (simp; omega)))))); (case hc => first | (refine made2 (w := w3) ?_ ?_; (· (first | with_reducible rfl | omega | (simp only [World.size_alloc, World.size_drew]; done) | (simp only [World.size_alloc, World.size_drew]; omega))); (· exact (by (with_reducible (repeat' (first | exact Ext.refl _ | assumption | refine Ext.drew ?_ | refine Ext.drewN ?_ _ | refine Ext.alloc ?_ _ | refine Ext.setCell ?_ ?_ _ | refine Ext.trans ?_ (by assumption)))); all_goals (first | (simp; done) | (simp; omega))))) | (refine made2 (w := w4) ?_ ?_; (· (first | with_reducible rfl | omega | (simp only [World.size_alloc, World.size_drew]; done) | (simp only [World.size_alloc, World.size_drew]; omega))); (· exact (by (with_reducible (repeat' (first | exact Ext.refl _ | assumption | refine Ext.drew ?_ | refine Ext.drewN ?_ _ | refine Ext.alloc ?_ _ | refine Ext.setCell ?_ ?_ _ | refine Ext.trans ?_ (by assumption)))); all_goals (first | (simp; done) | (simp; omega))))) | (refine made2 (w := w3.alloc (.map #[] 0)) ?_ ?_; (· (first | with_reducible rfl | omega | (simp only [World.size_alloc, World.size_drew]; done) | (simp only [World.size_alloc, World.size_drew]; omega))); (· exact (by (with_reducible (repeat' (first | exact Ext.refl _ | assumption | refine Ext.drew ?_ | refine Ext.drewN ?_ _ | refine Ext.alloc ?_ _ | refine Ext.setCell ?_ ?_ _ | refine Ext.trans ?_ (by assumption)))); all_goals (first | (simp; done) | (simp; omega))))) | (refine made2 (w := w4.alloc (.map #[] 0)) ?_ ?_; (· (first | with_reducible rfl | omega | (simp only [World.size_alloc, World.size_drew]; done) | (simp only [World.size_alloc, World.size_drew]; omega))); (· exact (by (with_reducible (repeat' (first | exact Ext.refl _ | assumption | refine Ext.drew ?_ | refine Ext.drewN ?_ _ | refine Ext.alloc ?_ _ | refine Ext.setCell ?_ ?_ _ | refine Ext.trans ?_ (by assumption)))); all_goals (first | (simp; done) | (simp; omega)))))); (case hs => (first | with_reducible rfl | omega | (simp only [World.size_alloc, World.size_drew]; done) | (simp only [World.size_alloc, World.size_drew]; omega))); (case ns => (first | with_reducible rfl | omega | (simp only [World.size_alloc, World.size_drew]; done) | (simp only [World.size_alloc, World.size_drew]; omega))); (case ne => (first | with_reducible rfl | omega | (simp only [World.size_alloc, World.size_drew]; done) | (simp only [World.size_alloc, World.size_drew]; omega))))
end Go.Proofs.Ytkonojjillcfiaa

/- The search of layer 10 in plain words: the best by looking through, a run that is reckoned, what a budget does, how a run ends, and that its path is a way. -/
namespace Go.Proofs.Ytkonojjillcfiaa

theorem lessB_irr (a : HKey) : lessB a a = false := by
  cases h : lessB a a
  · rfl
  · rw [lessB_iff] at h; omega
theorem lessB_asym {a b : HKey} (h : lessB a b = true) : lessB b a = false := by
  cases k : lessB b a
  · rfl
  · rw [lessB_iff] at h k; omega
theorem lessB_via {a b c : HKey} (h : lessB a b = true) (k : lessB c b = false) : lessB c a = false := by
  cases l : lessB c a
  · rfl
  · have : lessB c b = true := by rw [lessB_iff] at h l ⊢; omega
    rw [this] at k; cases k

/-- The first of the open cells below a number. -/
def bestN (W : Int) (h : Nat → Int) (A : AS) : Nat → Option Nat
  | 0 => none
  | i + 1 => match bestN W h A i with
    | none => if A.st i = 1 then some i else none
    | some j => if A.st i = 1 ∧ lessB (kOf W h A i) (kOf W h A j) = true then some i else some j
theorem bestN_none {W : Int} {h : Nat → Int} {A : AS} : ∀ {n : Nat}, bestN W h A n = none → ∀ v, v < n → A.st v ≠ 1
  | 0, _ => fun v hv => absurd hv (Nat.not_lt_zero v)
  | i + 1, hb => fun v hv => by
    unfold bestN at hb
    cases hj : bestN W h A i
    · rw [hj] at hb
      simp only at hb
      split at hb
      · cases hb
      · next h1 =>
        by_cases e : v = i
        · rw [e]; exact h1
        · exact bestN_none hj v (by omega)
    · rw [hj] at hb
      simp only at hb
      split at hb <;> cases hb
theorem bestN_some {W : Int} {h : Nat → Int} {A : AS} : ∀ {n j : Nat}, bestN W h A n = some j → j < n ∧ A.st j = 1 ∧ ∀ v, v < n → A.st v = 1 → lessB (kOf W h A v) (kOf W h A j) = false
  | 0, _, hb => by cases hb
  | i + 1, j, hb => by
    unfold bestN at hb
    cases hj : bestN W h A i
    · rw [hj] at hb
      simp only at hb
      have hno := bestN_none hj
      split at hb
      · next h1 =>
        cases hb
        refine ⟨by omega, h1, fun v hv hv1 => ?_⟩
        by_cases e : v = i
        · rw [e]; exact lessB_irr _
        · exact absurd hv1 (hno v (by omega))
      · cases hb
    · rename_i m
      rw [hj] at hb
      simp only at hb
      obtain ⟨m1, m2, m3⟩ := bestN_some hj
      split at hb
      · next h1 =>
        cases hb
        refine ⟨by omega, h1.1, fun v hv hv1 => ?_⟩
        by_cases e : v = i
        · rw [e]; exact lessB_irr _
        · exact lessB_via h1.2 (m3 v (by omega) hv1)
      · next h1 =>
        cases hb
        refine ⟨by omega, m2, fun v hv hv1 => ?_⟩
        by_cases e : v = i
        · rw [e] at hv1 ⊢
          cases k : lessB (kOf W h A i) (kOf W h A j)
          · rfl
          · exact absurd ⟨hv1, k⟩ h1
        · exact m3 v (by omega) hv1
theorem bestN_best {G : Net} {W : Int} {h : Nat → Int} {A : AS} {v : Nat} (hb : bestN W h A G.n = some v) (hlt : ∀ u, A.st u = 1 → u < G.n) : IsBest W h A v :=
  ⟨(bestN_some hb).2.1, fun u hu => (bestN_some hb).2.2 u (hlt u hu) hu⟩

def chainF (came : Nat → Int) : Nat → Nat → Option (List Nat)
  | 0, _ => none
  | k + 1, v => if came v < 0 then some [v] else (chainF came k (came v).toNat).map (v :: ·)
theorem chainF_ok {came : Nat → Int} : ∀ {k v : Nat} {l : List Nat}, chainF came k v = some l → Chain came v l
  | 0, _, _, h => by cases h
  | k + 1, v, l, h => by
    unfold chainF at h
    split at h
    · next h0 => cases h; exact .stop h0
    · next h0 =>
      cases hc : chainF came k (came v).toNat
      · rw [hc] at h; cases h
      · rw [hc] at h
        cases h
        exact .go (by omega) (chainF_ok hc)

def runF (G : Net) (W : Int) (h : Nat → Int) (t : Nat) (b : Int) : Nat → AS → Option (List Nat × Int × Int × Int)
  | 0, _ => none
  | k + 1, A => match bestN W h A G.n with
    | none => some ([], 0, A.cnt, 22)
    | some v => if A.cnt = b then some ([], 0, A.cnt, 23) else if v = t then (chainF A.came (G.n + 1) t).map (fun l => (l.reverse, A.g t, A.cnt + 1, 0)) else runF G W h t b k (stepA G A v)

theorem rx_st (G : Net) (c : Nat) (A : AS) (m u : Nat) : (rx G c A m).st u = A.st u ∨ (u = m ∧ (rx G c A m).st u = 1 ∧ A.st u ≠ 2) := by
  unfold rx
  split
  · next h =>
    by_cases e : u = m
    · subst e; right; exact ⟨rfl, updN_same _ _ _, by rcases h with h | h <;> omega⟩
    · left; exact updN_ne _ _ e
  · left; rfl
theorem rx_c (G : Net) (c : Nat) (A : AS) (m : Nat) : (rx G c A m).cnt = A.cnt := by
  unfold rx; split <;> rfl
theorem rx_g2 (G : Net) (c : Nat) (A : AS) (m u : Nat) (h : A.st u = 2) : (rx G c A m).st u = 2 ∧ (rx G c A m).g u = A.g u ∧ (rx G c A m).came u = A.came u := by
  unfold rx
  split
  · next k =>
    have hne : u ≠ m := fun e => by subst e; rcases k with k | k <;> omega
    exact ⟨(updN_ne _ _ hne).trans h, updI_ne _ _ hne, updI_ne _ _ hne⟩
  · exact ⟨h, rfl, rfl⟩
theorem rxs_st (G : Net) (c : Nat) : ∀ (l : List Nat) (A : AS) (u : Nat), (rxs G c A l).st u = A.st u ∨ (u ∈ l ∧ (rxs G c A l).st u = 1 ∧ A.st u ≠ 2)
  | [], _, _ => .inl rfl
  | m :: l, A, u => by
    show (rxs G c (rx G c A m) l).st u = _ ∨ _ ∧ (rxs G c (rx G c A m) l).st u = 1 ∧ _
    rcases rxs_st G c l (rx G c A m) u with h | ⟨h1, h2, h3⟩
    · rcases rx_st G c A m u with k | ⟨k1, k2, k3⟩
      · exact .inl (h.trans k)
      · exact .inr ⟨k1 ▸ List.mem_cons_self, h.trans k2, k3⟩
    · refine .inr ⟨List.mem_cons_of_mem _ h1, h2, fun e => ?_⟩
      exact h3 (rx_g2 G c A m u e).1
theorem rxs_c (G : Net) (c : Nat) : ∀ (l : List Nat) (A : AS), (rxs G c A l).cnt = A.cnt
  | [], _ => rfl
  | m :: l, A => (rxs_c G c l (rx G c A m)).trans (rx_c G c A m)
theorem stepA_st (G : Net) (A : AS) (v u : Nat) : (u = v ∧ A.st v ≠ 2 → (stepA G A v).st u = 2) ∧ ((stepA G A v).st u = 2 → u = v ∨ A.st u = 2) ∧ ((stepA G A v).st u = 1 → A.st u = 1 ∨ u ∈ G.adj v) := by
  have hst : ∀ x, (A.settle v).st x = if x = v then 2 else A.st x := fun x => rfl
  have h := rxs_st G v (G.adj v) (A.settle v) u
  rw [hst] at h
  refine ⟨fun e => ?_, fun e => ?_, fun e => ?_⟩
  · rcases h with h | h
    · exact h.trans (if_pos e.1)
    · rw [if_pos e.1] at h; exact absurd rfl h.2.2
  · rcases h with h | h
    · by_cases k : u = v
      · exact .inl k
      · rw [if_neg k] at h; exact .inr (h.symm.trans e)
    · have := h.2.1
      have : (stepA G A v).st u = 1 := this
      omega
  · rcases h with h | h
    · by_cases k : u = v
      · rw [if_pos k] at h; have : (stepA G A v).st u = 2 := h; omega
      · rw [if_neg k] at h; exact .inl (h.symm.trans e)
    · exact .inr h.1
theorem stepA_c (G : Net) (A : AS) (v : Nat) : (stepA G A v).cnt = A.cnt + 1 := rxs_c G v _ _

theorem runF_ok {G : Net} {W : Int} {h : Nat → Int} {t : Nat} {b : Int} (hadj : ∀ v m, m ∈ G.adj v → m < G.n) : ∀ {k : Nat} {A : AS} {p : List Nat} {c n e : Int}, (∀ u, A.st u = 1 → u < G.n) → runF G W h t b k A = some (p, c, n, e) → ARun G W h t b A p c n e
  | 0, _, _, _, _, _, _, hr => by cases hr
  | k + 1, A, p, c, n, e, hlt, hr => by
    unfold runF at hr
    cases hb : bestN W h A G.n
    · rw [hb] at hr
      cases hr
      exact .none fun v hv => bestN_none hb v (hlt v hv) hv
    · rename_i v
      rw [hb] at hr
      simp only at hr
      have hB := bestN_best (G := G) hb hlt
      split at hr
      · next h1 => cases hr; exact .full v hB.1 h1
      · next h1 =>
        split at hr
        · next h2 =>
          subst h2
          cases hc : chainF A.came (G.n + 1) v
          · rw [hc] at hr; cases hr
          · rw [hc] at hr
            cases hr
            exact .found hB h1 (chainF_ok hc)
        · next h2 =>
          refine .next hB h1 h2 (runF_ok hadj (fun u hu => ?_) hr)
          rcases (stepA_st G A v u).2.2 hu with k | k
          · exact hlt u k
          · exact hadj v u k

section
variable {G : Net} {D : Nat → Int} {s : Nat} {A : AS} {pend : Nat → Nat → Prop}

theorem sinv_rxs (F : IsFar G s D) (hn : G.n ≤ 1000000) {c : Nat} : ∀ (l : List Nat) {A : AS} {pend : Nat → Nat → Prop}, SInv G D s A pend → A.st c = 2 → (∀ m, m ∈ l → G.op m = true ∧ m ∈ G.adj c) → SInv G D s (rxs G c A l) (fun u v => pend u v ∧ ¬ (u = c ∧ v ∈ l))
  | [], A, pend, I, _, _ => I.weaken fun _ _ _ _ h => ⟨h, fun k => by cases k.2⟩
  | m :: l, A, pend, I, hc, hl => by
    have hm := hl m List.mem_cons_self
    have I2 := sinv_rx I F hn hc hm.1 hm.2
    refine (sinv_rxs F hn l I2 (rx_g2 G c A m c hc).1 (fun x hx => hl x (List.mem_cons_of_mem _ hx))).weaken fun u v _ _ h => ⟨h.1.1, fun k => ?_⟩
    rcases List.mem_cons.1 k.2 with e | e
    · exact h.1.2 ⟨k.1, e⟩
    · exact h.2 ⟨k.1, e⟩
theorem sinv_step (I : SInv G D s A (fun _ _ => False)) (F : IsFar G s D) (hn : G.n ≤ 1000000) {h : Nat → Int} (hg : Guess G h) (hadj : ∀ v m, m ∈ G.adj v → G.op m = true) {W : Int} {v : Nat} (hb : IsBest W h A v) : SInv G D s (stepA G A v) (fun _ _ => False) := by
  have I1 := sinv_settle I hb.1 (sinv_best I F hn hg hb).1
  have h2 : (A.settle v).st v = 2 := updN_same _ _ _
  exact (sinv_rxs F hn (G.adj v) I1 h2 (fun m hm => ⟨hadj v m hm, hm⟩)).weaken fun u x _ _ k => k.2 k.1

/-- A chain is a way, and so in each net that has its cells as they are. -/
theorem chain_way (I : SInv G D s A pend) {K : Net} {v : Nat} {l : List Nat} (hc : Chain A.came v l) : A.st v ≠ 0 → (∀ u, u ∈ l → K.op u = true ∧ K.cost u = G.cost u) → (∀ u x, u ∈ l → x ∈ l → x ∈ G.adj u → x ∈ K.adj u) → Way K s v (A.g v) := by
  induction hc with
  | stop h0 =>
    rename_i v
    intro hv h1 _
    by_cases e : v = s
    · subst e
      rw [I.sg]
      exact .start (h1 v List.mem_cons_self).1
    · obtain ⟨u, hu, _⟩ := I.back v hv e
      omega
  | go h0 hcc ih =>
    rename_i v u l
    intro hv h1 h2
    by_cases e : v = s
    · subst e
      have := I.sc
      omega
    · obtain ⟨u', hu, k1, k2, k3⟩ := I.back v hv e
      have : u' = u := by omega
      subst this
      have hmu : u' ∈ l := by cases hcc <;> exact List.mem_cons_self
      have hw := ih (by omega) (fun x hx => h1 x (List.mem_cons_of_mem _ hx)) (fun x y hx hy => h2 x y (List.mem_cons_of_mem _ hx) (List.mem_cons_of_mem _ hy))
      have ha := h2 u' v (List.mem_cons_of_mem _ hmu) List.mem_cons_self k2
      have ho := h1 v List.mem_cons_self
      have hou := h1 u' (List.mem_cons_of_mem _ hmu)
      refine (Way.step hw (K.sym v u' ho.1 hou.1 ha) ho.1).cast ?_
      rw [ho.2]; exact k3.symm
end

theorem run_cnt {G : Net} {W : Int} {h : Nat → Int} {t : Nat} {b : Int} {A : AS} {p : List Nat} {c k e : Int} (r : ARun G W h t b A p c k e) : A.cnt ≤ k := by
  induction r with
  | none _ => exact Int.le_refl _
  | full _ _ _ => exact Int.le_refl _
  | found _ _ _ => omega
  | next _ _ _ _ ih => rw [stepA_c] at ih; omega

/-- What a smaller budget does. -/
theorem run_budget {G : Net} {W : Int} {h : Nat → Int} {t : Nat} {m : Int} {A : AS} {p : List Nat} {c k e : Int} (r : ARun G W h t m A p c k e) (he : e ≠ 23) {b : Int} (hb : A.cnt ≤ b) : (b < k → ARun G W h t b A [] 0 b 23) ∧ (k ≤ b → ARun G W h t b A p c k e) := by
  induction r with
  | none h0 => exact ⟨fun hk => by omega, fun _ => .none h0⟩
  | full _ _ _ => exact absurd rfl he
  | found hB hn hc =>
    rename_i A l
    by_cases e1 : A.cnt = b
    · exact ⟨fun _ => by rw [← e1]; exact .full t hB.1 rfl, fun hk => by omega⟩
    · exact ⟨fun hk => by omega, fun _ => .found hB e1 hc⟩
  | next hB hn hv r ih =>
    rename_i A v p c k e
    have hk := run_cnt r
    rw [stepA_c] at hk
    by_cases e1 : A.cnt = b
    · exact ⟨fun _ => by rw [← e1]; exact .full v hB.1 rfl, fun hk2 => by omega⟩
    · have := ih he (by rw [stepA_c]; omega)
      exact ⟨fun h1 => .next hB e1 hv (this.1 h1), fun h1 => .next hB e1 hv (this.2 h1)⟩

/-- How a run ends. -/
structure Found (G : Net) (D : Nat → Int) (s t : Nat) (p : List Nat) (c : Int) : Prop where
  cost : c = D t
  fin : D t < infI
  way : ∀ K : Net, (∀ u, u ∈ p → K.op u = true ∧ K.cost u = G.cost u) → (∀ u x, u ∈ p → x ∈ p → x ∈ G.adj u → x ∈ K.adj u) → Way K s t c

theorem run_end {G : Net} {W : Int} {h : Nat → Int} {t s : Nat} {b : Int} {A : AS} {D : Nat → Int} {p : List Nat} {c k e : Int} (r : ARun G W h t b A p c k e) (I : SInv G D s A (fun _ _ => False)) (F : IsFar G s D) (hn : G.n ≤ 1000000) (hg : Guess G h) (hadj : ∀ v m, m ∈ G.adj v → G.op m = true) (ht : A.st t ≠ 2) : k ≤ G.n ∧ ((e = 0 ∧ Found G D s t p c) ∨ (e = 22 ∧ D t = infI ∧ p = [] ∧ c = 0) ∨ (e = 23 ∧ p = [] ∧ c = 0 ∧ k = b ∧ b < G.n)) := by
  induction r with
  | none h0 =>
    have hf := I.few
    refine ⟨hf.2, .inr (.inl ⟨rfl, ?_, rfl, rfl⟩)⟩
    by_cases hD : D t < infI
    · exact absurd (sinv_end I F h0 hD) ht
    · have := F.le t; omega
  | full v hv hc =>
    have := I.opens hv
    exact ⟨by omega, .inr (.inr ⟨rfl, rfl, rfl, hc, by omega⟩)⟩
  | found hB hb hc =>
    rename_i A l
    have h1 := sinv_best I F hn hg hB
    have h2 := I.opens hB.1
    refine ⟨by omega, .inl ⟨rfl, h1.1, by omega, fun K k1 k2 => ?_⟩⟩
    exact chain_way I hc (by have := hB.1; omega) (fun u hu => k1 u (List.mem_reverse.2 hu)) (fun u x hu hx => k2 u x (List.mem_reverse.2 hu) (List.mem_reverse.2 hx))
  | next hB hb hv r ih =>
    rename_i A v p c k e
    refine ih (sinv_step I F hn hg hadj hB) fun h2 => ?_
    rcases (stepA_st G A v t).2.1 h2 with k | k
    · exact hv k.symm
    · exact ht k
end Go.Proofs.Ytkonojjillcfiaa

/- What the laws on floods share: small, same, cells, From, awake. -/
namespace Go.Proofs.Ytkonojjillcfiaa
open Go.RowKit

theorem small08_any (W H : Int) (a : Option Addr) (n c : Nat) (w : World) : Calls Try.prog 33 #[.agg #[.int .i64 W, .int .i64 H, .slice a n c]] w fun e w' => e = .returned (.bool (decide ((n : Int) ≤ 150))) ∧ Ext w w' := by
  go_enter Try.func33, Try.ntmps33
  go_wp2
  go_ret
  exact ⟨rfl, (by (with_reducible (repeat' (first | exact Ext.refl _ | assumption | refine Ext.drew ?_ | refine Ext.drewN ?_ _ | refine Ext.alloc ?_ _ | refine Ext.setCell ?_ ?_ _ | refine Ext.trans ?_ (by assumption)))); all_goals (first | (simp; done) | (simp; omega)))⟩

theorem reads_u64 {w : World} {v : Value} {l : List Int} (h : Reads u64E w v l) (h1 : 0 < l.length) : ∃ b off c, v = .slice (some ⟨b, off, none⟩) l.length c ∧ b < w.heap.size ∧ ∀ k (hk : k < l.length), w.cell? ⟨b, off + k, none⟩ = some (.int .u64 l[k]) := by
  rcases h with ⟨_, h⟩ | ⟨b, off, c, hv, hb, hc⟩
  · rw [h] at h1; simp at h1
  · refine ⟨b, off, c, hv, hb, fun k hk => ?_⟩
    have := hc k l[k] (List.getElem?_eq_getElem hk) 0 (.int .u64 l[k]) rfl
    simpa [u64E] using this
theorem reads_cell {w : World} {v : Value} {l : List Cell} (h : Reads cellE w v l) (h1 : 0 < l.length) : ∃ b off c, v = .slice (some ⟨b, off, none⟩) l.length c ∧ b < w.heap.size ∧ ∀ k p, l[k]? = some p → w.cell? ⟨b, off + k * 2, none⟩ = some (.int .i64 p.1) ∧ w.cell? ⟨b, off + k * 2 + 1, none⟩ = some (.int .i64 p.2) := by
  rcases h with ⟨_, h⟩ | ⟨b, off, c, hv, hb, hc⟩
  · rw [h] at h1; simp at h1
  · refine ⟨b, off, c, hv, hb, fun k p hk => ⟨?_, ?_⟩⟩
    · have := hc k p hk 0 (.int .i64 p.1) rfl
      simpa [cellE] using this
    · have := hc k p hk 1 (.int .i64 p.2) rfl
      rw [show off + k * 2 + 1 = off + (k * 2 + 1) by omega]
      simpa [cellE, Nat.add_assoc] using this

set_option maxHeartbeats 400000 in
theorem same08_any {w : World} {va vb : Value} {l : List Int} (hl : l.length ≤ 1000000) (h0 : 0 < l.length) (ha : Reads u64E w va l) (hb : Reads u64E w vb l) :
    Calls Try.prog 37 #[va, vb] w fun e w' => e = .returned (.bool true) ∧ Ext w w' := by
  obtain ⟨b, off, c, rfl, hb1, h1⟩ := reads_u64 ha h0
  obtain ⟨b', off', c', rfl, hb2, h2⟩ := reads_u64 hb h0
  have H1 := hide h1
  have H2 := hide h2
  clear h1 h2 ha hb
  go_enter Try.func37, Try.ntmps37
  go_wp2
  go_loopw [5] (fun i wr => ∃ k : Nat, k ≤ l.length ∧ i = .int .i64 k ∧ Ext w wr) (fun i _ => l.length - (intOf i).toNat)
  case atStart => exact ⟨0, Nat.zero_le _, rfl, (by (with_reducible (repeat' (first | exact Ext.refl _ | assumption | refine Ext.drew ?_ | refine Ext.drewN ?_ _ | refine Ext.alloc ?_ _ | refine Ext.setCell ?_ ?_ _ | refine Ext.trans ?_ (by assumption)))); all_goals (first | (simp; done) | (simp; omega)))⟩
  case round =>
    obtain ⟨k, hk, rfl, hext⟩ := hrel
    by_cases hlt : k < l.length
    · have d1 := (hext.cell (p := ⟨b, off + k, none⟩) hb1).trans (H1.out k hlt)
      have d2 := (hext.cell (p := ⟨b', off' + k, none⟩) hb2).trans (H2.out k hlt)
      generalize l[k] = p at *
      go_wp2
      go_quiet (fail)
      go_wp2
      go_roundw
      case rel => exact ⟨k + 1, by omega, by go_num, (by (with_reducible (repeat' (first | exact Ext.refl _ | assumption | refine Ext.drew ?_ | refine Ext.drewN ?_ _ | refine Ext.alloc ?_ _ | refine Ext.setCell ?_ ?_ _ | refine Ext.trans ?_ (by assumption)))); all_goals (first | (simp; done) | (simp; omega)))⟩
      case measure => simp [intOf]; omega
    · go_wp2
      go_ret
      exact ⟨rfl, (by (with_reducible (repeat' (first | exact Ext.refl _ | assumption | refine Ext.drew ?_ | refine Ext.drewN ?_ _ | refine Ext.alloc ?_ _ | refine Ext.setCell ?_ ?_ _ | refine Ext.trans ?_ (by assumption)))); all_goals (first | (simp; done) | (simp; omega)))⟩

set_option maxHeartbeats 400000 in
theorem cells08_any {w : World} {va vb : Value} {l : List Cell} (hl : l.length ≤ 1000000) (h0 : 0 < l.length) (ha : Reads cellE w va l) (hb : Reads cellE w vb l) :
    Calls Try.prog 42 #[va, vb] w fun e w' => e = .returned (.bool true) ∧ Ext w w' := by
  obtain ⟨b, off, c, rfl, hb1, h1⟩ := reads_cell ha h0
  obtain ⟨b', off', c', rfl, hb2, h2⟩ := reads_cell hb h0
  have H1 := hide h1
  have H2 := hide h2
  clear h1 h2 ha hb
  go_enter Try.func42, Try.ntmps42
  go_wp2
  go_loopw [5] (fun i wr => ∃ k : Nat, k ≤ l.length ∧ i = .int .i64 k ∧ Ext w wr) (fun i _ => l.length - (intOf i).toNat)
  case atStart => exact ⟨0, Nat.zero_le _, rfl, (by (with_reducible (repeat' (first | exact Ext.refl _ | assumption | refine Ext.drew ?_ | refine Ext.drewN ?_ _ | refine Ext.alloc ?_ _ | refine Ext.setCell ?_ ?_ _ | refine Ext.trans ?_ (by assumption)))); all_goals (first | (simp; done) | (simp; omega)))⟩
  case round =>
    obtain ⟨k, hk, rfl, hext⟩ := hrel
    by_cases hlt : k < l.length
    · obtain ⟨p, hp⟩ : ∃ p, l[k]? = some p := ⟨_, List.getElem?_eq_getElem hlt⟩
      have d1 := (hext.cell (p := ⟨b, off + k * 2, none⟩) hb1).trans (H1.out k p hp).1
      have d2 := (hext.cell (p := ⟨b, off + k * 2 + 1, none⟩) hb1).trans (H1.out k p hp).2
      have d3 := (hext.cell (p := ⟨b', off' + k * 2, none⟩) hb2).trans (H2.out k p hp).1
      have d4 := (hext.cell (p := ⟨b', off' + k * 2 + 1, none⟩) hb2).trans (H2.out k p hp).2
      have hq1 : ∀ w, (Op.equalIn 10000 49 (.agg #[.int .i64 p.1, .int .i64 p.2]) (.agg #[.int .i64 p.1, .int .i64 p.2])).run Try.prog w = .ok true w := fun w => by rw [eq_cell p p w]; simp [cellB]
      clear hp
      go_wp2
      go_quiet (fail)
      go_wp2
      go_roundw
      case rel => exact ⟨k + 1, by omega, by go_num, (by (with_reducible (repeat' (first | exact Ext.refl _ | assumption | refine Ext.drew ?_ | refine Ext.drewN ?_ _ | refine Ext.alloc ?_ _ | refine Ext.setCell ?_ ?_ _ | refine Ext.trans ?_ (by assumption)))); all_goals (first | (simp; done) | (simp; omega)))⟩
      case measure => simp [intOf]; omega
    · go_wp2
      go_ret
      exact ⟨rfl, (by (with_reducible (repeat' (first | exact Ext.refl _ | assumption | refine Ext.drew ?_ | refine Ext.drewN ?_ _ | refine Ext.alloc ?_ _ | refine Ext.setCell ?_ ?_ _ | refine Ext.trans ?_ (by assumption)))); all_goals (first | (simp; done) | (simp; omega)))⟩

theorem fFrom_bad {w : World} (W H : Int) (a : Option Addr) (n c : Nat) (x y : Int) (he : lookE W H n 0 0 W H x y ≠ 0) :
    Calls Try.prog 39 #[.agg #[.int .i64 W, .int .i64 H, .slice a n c], .agg #[.int .i64 x, .int .i64 y]] w fun e w' => e = .returned (.tuple #[.slice none 0 0, .int .i64 (lookE W H n 0 0 W H x y)]) ∧ Ext w w' := by
  have HW := hide (fun (w' : World) => fWithin_bad (w := w') W H a n c 0 0 W H x y he)
  generalize lookE W H n 0 0 W H x y = le at *
  clear he
  go_enter Try.func39, Try.ntmps39
  go_wp2_with (go_at_call 35; refine (HW.out _).mono ?_; rintro e w1 ⟨rfl, hb1⟩)
  exact bodyPost_ret (v := .tuple #[.slice none 0 0, .int .i64 le]) (by simp [results, Try.results39, go_sem, *]) rfl ⟨rfl, (by (with_reducible (repeat' (first | exact Ext.refl _ | assumption | refine Ext.drew ?_ | refine Ext.drewN ?_ _ | refine Ext.alloc ?_ _ | refine Ext.setCell ?_ ?_ _ | refine Ext.trans ?_ (by assumption)))); all_goals (first | (simp; done) | (simp; omega)))⟩

theorem fFrom_ok {w : World} {W H : Int} {a : Option Addr} {l : List Int} {x y : Int} (c : Nat) (he : lookE W H l.length 0 0 W H x y = 0) (hr : Row16 w a l) (hu : U16s l) :
    Calls Try.prog 39 #[.agg #[.int .i64 W, .int .i64 H, .slice a l.length c], .agg #[.int .i64 x, .int .i64 y]] w fun e w' =>
      ∃ v far, e = .returned (.tuple #[v, .int .i64 0]) ∧ Ext w w' ∧ Own u64E w' w.heap.size 53 v (farL far l.length) ∧ IsFar (mapNet (landP_of he hu)) (idxN W (x, y)) far ∧ FarLow (mapNet (landP_of he hu)) far := by
  obtain ⟨G, hG⟩ : ∃ G, mapNet (landP_of he hu) = G := ⟨_, rfl⟩
  have HW := hide (fun (w' : World) (hx : Ext w w') => fWithin_ok c he (hr.ext hx) hu)
  rw [hG] at HW ⊢
  generalize idxN W (x, y) = s at *
  obtain ⟨n, hn⟩ : ∃ n, l.length = n := ⟨_, rfl⟩
  rw [hn] at HW ⊢
  clear hG hr hu hn he
  go_enter Try.func39, Try.ntmps39
  go_wp2_with fail
  refine (HW.out _ (by (with_reducible (repeat' (first | exact Ext.refl _ | assumption | refine Ext.drew ?_ | refine Ext.drewN ?_ _ | refine Ext.alloc ?_ _ | refine Ext.setCell ?_ ?_ _ | refine Ext.trans ?_ (by assumption)))); all_goals (first | (simp; done) | (simp; omega)))).mono ?_
  rintro e w2 ⟨v, far, rfl, hx2, hv, h1, h2⟩
  have hxx : Ext w w2 := (by (with_reducible (repeat' (first | exact Ext.refl _ | assumption | refine Ext.drew ?_ | refine Ext.drewN ?_ _ | refine Ext.alloc ?_ _ | refine Ext.setCell ?_ ?_ _ | refine Ext.trans ?_ (by assumption)))); all_goals (first | (simp; done) | (simp; omega)))
  have HV := hide (hv.lower (base' := w.heap.size) (by simp; omega))
  have H1 := hide h1
  have H2 := hide h2
  clear hv h1 h2
  go_wp2
  exact bodyPost_ret (v := .tuple #[v, .int .i64 0]) (by simp [results, Try.results39, go_sem, *]) rfl ⟨v, far, rfl, hxx, HV.out, H1.out, H2.out⟩
end Go.Proofs.Ytkonojjillcfiaa

/- The example of chapter 08. -/
namespace Go.Proofs.Ytkonojjillcfiaa
open Go.RowKit

def aw : List Int := [1, 2, 1, 1, 9, 1]
theorem aw_look : lookE 3 2 aw.length 0 0 3 2 0 0 = 0 := by decide +kernel
theorem aw_u16 : U16s aw := by intro x hx; simp [aw] at hx; omega
def awN : Net := mapNet (landP_of aw_look aw_u16)
def awF (v : Nat) : Int := [0, 2, 3, 1, 10, 4].getD v infI

theorem aw_big {v : Nat} (h : 6 ≤ v) : awF v = infI := by
  unfold awF
  rw [List.getD_eq_getElem?_getD, List.getElem?_eq_none (by simpa using h)]
  rfl
theorem aw_op : ∀ v, v < 6 → awN.op v = true := by decide +kernel
theorem aw_near : ∀ v, v < 6 → v ≠ 0 → ∀ u ∈ awN.adj v, awF v ≤ awF u + awN.cost v := by decide +kernel
theorem aw_from : ∀ v, v < 6 → v ≠ 0 → ∃ u ∈ awN.adj v, awN.op u = true ∧ awF u + awN.cost v = awF v := by decide +kernel
theorem aw_all : ∀ v, v < 6 → 0 ≤ awF v ∧ awF v ≤ infI := by decide +kernel
theorem aw_lt {v : Nat} (h : awN.op v = true) : v < 6 := awN.lt v h
theorem aw_far : IsFar awN 0 awF where
  start _ := rfl
  shut v hv := aw_big (by
    by_cases h : v < 6
    · rw [aw_op v h] at hv; cases hv
    · omega)
  nn v := by
    by_cases h : v < 6
    · exact (aw_all v h).1
    · rw [aw_big (by omega)]; decide
  le v := by
    by_cases h : v < 6
    · exact (aw_all v h).2
    · rw [aw_big (by omega)]; exact Int.le_refl _
  near v hv h0 u hu _ _ := aw_near v (aw_lt hv) h0 u hu
  from_ v hv h0 _ := by
    obtain ⟨u, h1, h2, h3⟩ := aw_from v (aw_lt hv) h0
    exact ⟨u, h1, h2, h3⟩
theorem aw_n1 : nextV awN awF 5 = some 2 := by decide +kernel
theorem aw_n2 : nextV awN awF 2 = some 1 := by decide +kernel
theorem aw_n3 : nextV awN awF 1 = some 0 := by decide +kernel
theorem aw_back : BackP awN awF 5 [5, 2, 1, 0] := .step (by decide) aw_n1 (.step (by decide) aw_n2 (.step (by decide) aw_n3 (.done rfl)))

theorem aw_row {w : World} {b : Nat} (h : w.heap[b]? = some (.cells #[.int .u16 1, .int .u16 2, .int .u16 1, .int .u16 1, .int .u16 9, .int .u16 1] 70 (0, 0))) : Row16 w (some ⟨b, 0, none⟩) aw := fun _ => by
  refine ⟨b, 0, rfl, (Array.getElem?_eq_some_iff.1 h).1, fun k hk => ?_⟩
  have hk6 : k < 6 := hk
  obtain rfl | rfl | rfl | rfl | rfl | rfl : k = 0 ∨ k = 1 ∨ k = 2 ∨ k = 3 ∨ k = 4 ∨ k = 5 := by omega
  all_goals (simp [World.cell?, h, aw])

set_option maxRecDepth 100000 in
theorem awake08_any (w : World) : Calls Try.prog 34 #[] w fun e w' => e = .returned (.bool true) ∧ Ext w w' := by
  have HF := hide (fun (w' : World) (a : Option Addr) (hr : Row16 w' a aw) => fFrom_ok (x := 0) (y := 0) 6 aw_look hr aw_u16)
  have HP := hide (fun (w' : World) (a : Option Addr) (hr : Row16 w' a aw) => fPath_at (x := 0) (y := 0) 6 2 1 aw_look hr aw_u16 (by decide +kernel))
  go_enter Try.func34, Try.ntmps34
  go_wp2_with fail
  obtain ⟨w0, hw0⟩ : ∃ w0, w0 = (w.alloc (.cells #[.int .u16 1, .int .u16 2, .int .u16 1, .int .u16 1, .int .u16 9, .int .u16 1] 70)).alloc (.cells #[.int .i64 3, .int .i64 2, .slice (some ⟨w.heap.size, 0, none⟩) 6 6] 26) := ⟨_, rfl⟩
  have hx0 : Ext w w0 := by rw [hw0]; exact (by (with_reducible (repeat' (first | exact Ext.refl _ | assumption | refine Ext.drew ?_ | refine Ext.drewN ?_ _ | refine Ext.alloc ?_ _ | refine Ext.setCell ?_ ?_ _ | refine Ext.trans ?_ (by assumption)))); all_goals (first | (simp; done) | (simp; omega)))
  have row0 : Row16 w0 (some ⟨w.heap.size, 0, none⟩) aw := aw_row (by rw [hw0, ((Ext.refl (w.alloc _)).alloc _).block (by simp)]; exact heap_new _ _)
  have k0 : w0.cell? ⟨w.heap.size + 1, 0, none⟩ = some (.int .i64 3) := by rw [hw0]; simp [go_sem]
  have k1 : w0.cell? ⟨w.heap.size + 1, 1, none⟩ = some (.int .i64 2) := by rw [hw0]; simp [go_sem]
  have k2 : w0.cell? ⟨w.heap.size + 1, 2, none⟩ = some (.slice (some ⟨w.heap.size, 0, none⟩) 6 6) := by rw [hw0]; simp [go_sem]
  have z0 : w.heap.size + 1 < w0.heap.size := by rw [hw0]; simp
  have ROW := hide row0
  rw [← hw0]
  clear hw0 row0
  refine (HF.out w0 _ ROW.out).mono ?_
  rintro e w1 ⟨v1, far1, rfl, hx1, hv1, F1, _⟩
  obtain rfl : far1 = awF := funext fun v => IsFar.same (show IsFar awN 0 far1 from F1) aw_far v
  have HV1 := hide (show Own u64E w1 w0.heap.size 53 v1 [0, 2, 3, 1, 10, 4] from hv1)
  have j0 := (hx1.cell (p := ⟨w.heap.size + 1, 0, none⟩) z0).trans k0
  have j1 := (hx1.cell (p := ⟨w.heap.size + 1, 1, none⟩) z0).trans k1
  have j2 := (hx1.cell (p := ⟨w.heap.size + 1, 2, none⟩) z0).trans k2
  have HX1 := hide (hx0.trans hx1)
  have ROW1 := hide (ROW.out.ext hx1)
  clear k0 k1 k2 hx0 hx1 hv1 F1 z0
  go_wp2_with fail
  refine (HP.out w1 _ ROW1.out).mono ?_
  rintro e w2 ⟨far2, F2, _, hx2, hcase⟩
  obtain rfl : far2 = awF := funext fun v => IsFar.same (show IsFar awN 0 far2 from F2) aw_far v
  have e5 : idxN 3 (2, 1) = 5 := by decide
  have e4 : awF 5 = 4 := by decide
  rw [e5, e4] at hcase
  rcases hcase with ⟨h, _⟩ | ⟨_, v2, p, rfl, hbp, hv2⟩
  · exact absurd h (by decide)
  · obtain rfl : p = [5, 2, 1, 0] := BackP.one (show BackP awN awF 5 p from hbp) aw_back
    have HV2 := hide (show Own cellE w2 w1.heap.size 49 v2 [(0, 0), (1, 0), (2, 0), (2, 1)] from hv2)
    have HV12 := hide (HV1.out.ext hx2)
    have HX2 := hide (HX1.out.trans hx2)
    clear hbp hv2 hx2 e5 e4 F2 HF HP
    go_wp2_with fail
    refine (same08_any (l := [0, 2, 3, 1, 10, 4]) (by decide) (by decide) (Own.reads (HV12.out.ext (by (with_reducible (repeat' (first | exact Ext.refl _ | assumption | refine Ext.drew ?_ | refine Ext.drewN ?_ _ | refine Ext.alloc ?_ _ | refine Ext.setCell ?_ ?_ _ | refine Ext.trans ?_ (by assumption)))); all_goals (first | (simp; done) | (simp; omega))))) (reads_lit u64E _ _ _ _ rfl _ _ _ rfl rfl)).mono ?_
    rintro e w3 ⟨rfl, hx3⟩
    have hx23 : Ext w2 w3 := (by (with_reducible (repeat' (first | exact Ext.refl _ | assumption | refine Ext.drew ?_ | refine Ext.drewN ?_ _ | refine Ext.alloc ?_ _ | refine Ext.setCell ?_ ?_ _ | refine Ext.trans ?_ (by assumption)))); all_goals (first | (simp; done) | (simp; omega)))
    have HV3 := hide (HV2.out.ext hx23)
    have HX3 := hide (HX2.out.trans hx23)
    clear hx3 hx23
    go_wp2_with fail
    refine (cells08_any (l := [(0, 0), (1, 0), (2, 0), (2, 1)]) (by decide) (by decide) (Own.reads (HV3.out.ext (by (with_reducible (repeat' (first | exact Ext.refl _ | assumption | refine Ext.drew ?_ | refine Ext.drewN ?_ _ | refine Ext.alloc ?_ _ | refine Ext.setCell ?_ ?_ _ | refine Ext.trans ?_ (by assumption)))); all_goals (first | (simp; done) | (simp; omega))))) (reads_lit cellE _ _ _ _ rfl _ _ _ rfl rfl)).mono ?_
    rintro e w4 ⟨rfl, hx4⟩
    have hx34 : Ext w3 w4 := (by (with_reducible (repeat' (first | exact Ext.refl _ | assumption | refine Ext.drew ?_ | refine Ext.drewN ?_ _ | refine Ext.alloc ?_ _ | refine Ext.setCell ?_ ?_ _ | refine Ext.trans ?_ (by assumption)))); all_goals (first | (simp; done) | (simp; omega)))
    clear hx4
    go_wp2
    go_ret
    exact ⟨rfl, HX3.out.trans hx34⟩
end Go.Proofs.Ytkonojjillcfiaa

/- Arguments that came in as data, opened: structs of numbers by value. -/
namespace Go.Proofs.Ytkonojjillcfiaa
open Go.RowKit Go.ChangeShapes Go.WideShapes Go.ChangeAt

section
variable {H : Type} {enc : TypeId × Value → H} {w : World} {r : Reach} {base b0 : Nat} {spare : Nat → Bool} {held : Bool}

theorem InI_wf {n : Int} (h : (Lit.int .i64 n).wf = true) : InI n := by
  have hmin : IntKind.i64.min = -9223372036854775808 := rfl
  have hmax : IntKind.i64.max = 9223372036854775807 := rfl
  simp only [Lit.wf, Bool.and_eq_true, decide_eq_true_eq] at h
  unfold InI; omega

theorem one_int {fuel : Nat} {v : Value} {x : DataW H × List MemPlace} (h : DataW.trod enc Try.prog w base spare held fuel 3 [v] = some x) : ∃ n, v = .int .i64 n ∧ InI n := by
  obtain ⟨n, hc, _, hw⟩ := DataW.trod_int Try.underlying3 h
  simp at hc
  exact ⟨n, hc, InI_wf hw⟩

theorem trod_two {t : TypeId} {f0 f1 : Field} {fuel : Nat} {c0 c1 : Value} {x : DataW H × List MemPlace} (ht : Try.prog.underlying t = some (.struct #[f0, f1])) (e0 : f0.type = 3 ∧ f0.offset = 0) (e1 : f1.type = 3 ∧ f1.offset = 1) (h : DataW.trod enc Try.prog w base spare held fuel t [c0, c1] = some x) :
    ∃ a b, c0 = .int .i64 a ∧ c1 = .int .i64 b ∧ InI a ∧ InI b := by
  obtain ⟨xs, n, _, _, _, hlen, hf⟩ := DataW.trod_struct ht h
  have hc : Try.prog.cellsOf 3 = 1 := by kernel_rfl
  match xs, hlen with
  | [y0, y1], _ =>
    have h0 := hf 0 f0 rfl
    have h1 := hf 1 f1 rfl
    rw [e0.1, e0.2, hc] at h0
    rw [e1.1, e1.2, hc] at h1
    obtain ⟨a, rfl, ha⟩ := one_int h0
    obtain ⟨b, rfl, hb⟩ := one_int h1
    exact ⟨a, b, rfl, rfl, ha, hb⟩

set_option maxRecDepth 100000 in
theorem cells_cell : Try.prog.cellsOf 49 = 2 := by kernel_rfl
set_option maxRecDepth 100000 in
theorem cells_size : Try.prog.cellsOf 23 = 2 := by kernel_rfl

set_option maxRecDepth 100000 in
theorem open_cell {v : Value} {d : DataW H} {p : List MemPlace} (hv : Value.okWide Try.prog w r b0 49 v) (h : DataW.Trod enc Try.prog w base spare held 49 v d p) : ∃ x y, v = .agg #[.int .i64 x, .int .i64 y] ∧ InI x ∧ InI y := by
  obtain ⟨cs, rfl, hsz⟩ := okWide_struct Try.underlying49 hv
  obtain ⟨l⟩ := cs
  rw [cells_cell] at hsz
  match l, hsz with
  | [c0, c1], _ =>
    obtain ⟨fuel, hf⟩ := h
    obtain ⟨a, b, rfl, rfl, ha, hb⟩ := trod_two Try.underlying49 ⟨rfl, rfl⟩ ⟨rfl, rfl⟩ hf
    exact ⟨a, b, rfl, ha, hb⟩

set_option maxRecDepth 100000 in
theorem cells_parts : Try.prog.cellsOf 28 = 3 := by kernel_rfl
set_option maxRecDepth 100000 in
theorem open_parts {v : Value} {d : DataW H} {p : List MemPlace} (hv : Value.okWide Try.prog w r b0 28 v) (h : DataW.Trod enc Try.prog w base spare held 28 v d p) : ∃ x y z, v = .agg #[.int .i64 x, .int .i64 y, .int .i64 z] ∧ InI x ∧ InI y ∧ InI z := by
  obtain ⟨cs, rfl, hsz⟩ := okWide_struct Try.underlying28 hv
  obtain ⟨l⟩ := cs
  rw [cells_parts] at hsz
  match l, hsz with
  | [c0, c1, c2], _ =>
    obtain ⟨fuel, hf⟩ := h
    obtain ⟨xs, n, _, _, _, hlen, hf⟩ := DataW.trod_struct Try.underlying28 hf
    match xs, hlen with
    | [y0, y1], _ =>
      have h0 := hf 0 _ rfl
      have h1 := hf 1 _ rfl
      obtain ⟨a, b, rfl, rfl, ha, hb⟩ := trod_two (c0 := c0) (c1 := c1) Try.underlying23 ⟨rfl, rfl⟩ ⟨rfl, rfl⟩ h0
      obtain ⟨c, rfl, hc⟩ := one_int (v := c2) h1
      exact ⟨a, b, c, rfl, ha, hb, hc⟩
end
theorem own : ownKnob Try.prog.godebug = none := by kernel_rfl
theorem laidOut : laidOutB Try.prog = true := by kernel_rfl
end Go.Proofs.Ytkonojjillcfiaa

/- Arguments that came in as data, opened: fields of costs, and arrays of two numbers. -/
namespace Go.Proofs.Ytkonojjillcfiaa
open Go.RowKit Go.ChangeShapes Go.WideShapes Go.ChangeAt

section
variable {H : Type} {enc : TypeId × Value → H} {w : World} {r : Reach} {base b0 : Nat} {spare : Nat → Bool} {held : Bool}

/-- What came in as a field. -/
def FieldV (w : World) (W Hh : Int) (a : Option Addr) (l : List Int) : Prop := InI W ∧ InI Hh ∧ (l.length : Int) ≤ 9223372036854775807 ∧ Row16 w a l ∧ U16s l

set_option maxRecDepth 100000 in
theorem cells_field : Try.prog.cellsOf 26 = 3 := by kernel_rfl
set_option maxRecDepth 100000 in
theorem cells_u16 : Try.prog.cellsOf 70 = 1 := by kernel_rfl

theorem row16_of {a : Addr} {len : Nat} {zs : List Int} (hlen : len ≤ zs.length) (hc : ∀ i, i < zs.length → w.cell? (a.add i) = some (.int .u16 (zs.getD i 0))) (hw : ∀ n ∈ zs, (Lit.int .u16 n).wf = true) : (zs.take len).length = len ∧ Row16 w (some a) (zs.take len) ∧ U16s (zs.take len) := by
  have hl : (zs.take len).length = len := by rw [List.length_take]; omega
  refine ⟨hl, fun h0 => ?_, fun x hx => ?_⟩
  · obtain ⟨b, off, spot⟩ := a
    have z0 := hc 0 (by omega)
    have hspot : spot = none := by simpa [Addr.add] using World.cell?_spot z0
    subst hspot
    have z0' : w.cell? ⟨b, off, none⟩ = some (.int .u16 (zs.getD 0 0)) := by simpa [Addr.add] using z0
    refine ⟨b, off, rfl, World.block_lt_of_cell? w _ z0', fun k hk => ?_⟩
    have := hc k (by omega)
    rw [Addr.add_lit] at this
    rw [this]
    have hk' : k < zs.length := by omega
    simp [List.getD_eq_getElem?_getD, hk']
  · have hmem : x ∈ zs := List.mem_of_mem_take hx
    have h := hw x hmem
    have hmin : IntKind.u16.min = 0 := rfl
    have hmax : IntKind.u16.max = 65535 := rfl
    simp only [Lit.wf, Bool.and_eq_true, decide_eq_true_eq] at h
    omega

set_option maxRecDepth 100000 in
theorem open_field {v : Value} {d : DataW H} {p : List MemPlace} (hv : Value.okWide Try.prog w r b0 26 v) (h : DataW.Trod enc Try.prog w base spare held 26 v d p) :
    ∃ W Hh a l c, v = .agg #[.int .i64 W, .int .i64 Hh, .slice a (List.length l) c] ∧ FieldV w W Hh a l := by
  obtain ⟨cs, rfl, hsz⟩ := okWide_struct Try.underlying26 hv
  obtain ⟨l⟩ := cs
  rw [cells_field] at hsz
  match l, hsz with
  | [c0, c1, c2], _ =>
    obtain ⟨fuel, hf⟩ := h
    obtain ⟨xs, n, _, _, _, hlen, hf⟩ := DataW.trod_struct Try.underlying26 hf
    match xs, hlen with
    | [y0, y1], _ =>
      have h0 := hf 0 _ rfl
      have h1 := hf 1 _ rfl
      obtain ⟨a, b, rfl, rfl, ha, hb⟩ := trod_two (c0 := c0) (c1 := c1) Try.underlying23 ⟨rfl, rfl⟩ ⟨rfl, rfl⟩ h0
      have h1' : DataW.trod enc Try.prog w base spare held n 24 [c2] = some y1 := h1
      rcases open_ints Try.underlying24 Try.underlying70 cells_u16 h1' with ⟨hc, _⟩ | ⟨ad, len, cap, zs, hc, _, hl, hm, hz, _, hcell, hwz⟩
      · simp at hc
        subst hc
        exact ⟨a, b, none, [], 0, rfl, ha, hb, by simp, fun h => by simp at h, fun x hx => by simp at hx⟩
      · simp at hc
        subst hc
        have hle : len ≤ zs.length := by rw [hz]; split <;> omega
        obtain ⟨q1, q2, q3⟩ := row16_of hle hcell hwz
        refine ⟨a, b, some ad, zs.take len, cap, by rw [q1], ha, hb, ?_, q2, q3⟩
        rw [q1]; unfold maxLen at hm; omega

set_option maxRecDepth 100000 in
theorem cells_arr2 : Try.prog.cellsOf 29 = 2 := by kernel_rfl
set_option maxRecDepth 100000 in
theorem okWide_arr {n : Nat} {e t : TypeId} {v : Value} (ht : Try.prog.underlying t = some (.array n e)) (h : Value.okWide Try.prog w r b0 t v) : ∃ cs, v = .agg cs ∧ cs.size = Try.prog.cellsOf t := by
  simp only [Value.okWide, ht] at h
  obtain ⟨cs, h1, h2, _⟩ := h
  exact ⟨cs, h1, h2⟩
set_option maxRecDepth 100000 in
theorem open_arr2 {v : Value} {d : DataW H} {p : List MemPlace} (hv : Value.okWide Try.prog w r b0 29 v) (h : DataW.Trod enc Try.prog w base spare held 29 v d p) : ∃ x y, v = .agg #[.int .i64 x, .int .i64 y] ∧ InI x ∧ InI y := by
  obtain ⟨cs, rfl, hsz⟩ := okWide_arr Try.underlying29 hv
  obtain ⟨l⟩ := cs
  rw [cells_arr2] at hsz
  match l, hsz with
  | [c0, c1], _ =>
    obtain ⟨fuel, hf⟩ := h
    obtain ⟨xs, n, _, _, _, hlen, hf⟩ := DataW.trod_array Try.underlying29 hf
    match xs, hlen with
    | [y0, y1], _ =>
      have hc : Try.prog.cellsOf 3 = 1 := by kernel_rfl
      have h0 := hf 0 (by omega)
      have h1 := hf 1 (by omega)
      rw [hc] at h0 h1
      obtain ⟨a, rfl, ha⟩ := one_int (v := c0) h0
      obtain ⟨b, rfl, hb⟩ := one_int (v := c1) h1
      exact ⟨a, b, rfl, ha, hb⟩
end
end Go.Proofs.Ytkonojjillcfiaa

/- A box, and a way's two ends, that came in as data. -/
namespace Go.Proofs.Ytkonojjillcfiaa
open Go.RowKit Go.ChangeShapes Go.WideShapes Go.ChangeAt
section
variable {H : Type} {enc : TypeId × Value → H} {w : World} {r : Reach} {base b0 : Nat} {spare : Nat → Bool} {held : Bool}

set_option maxRecDepth 100000 in
theorem cells_box : Try.prog.cellsOf 75 = 4 := by kernel_rfl
set_option maxRecDepth 100000 in
theorem open_box {v : Value} {d : DataW H} {p : List MemPlace} (hv : Value.okWide Try.prog w r b0 75 v) (h : DataW.Trod enc Try.prog w base spare held 75 v d p) : ∃ x y z u, v = .agg #[.int .i64 x, .int .i64 y, .int .i64 z, .int .i64 u] ∧ InI x ∧ InI y ∧ InI z ∧ InI u := by
  obtain ⟨cs, rfl, hsz⟩ := okWide_struct Try.underlying75 hv
  obtain ⟨l⟩ := cs
  rw [cells_box] at hsz
  match l, hsz with
  | [c0, c1, c2, c3], _ =>
    obtain ⟨fuel, hf⟩ := h
    obtain ⟨xs, n, _, _, _, hlen, hf⟩ := DataW.trod_struct Try.underlying75 hf
    match xs, hlen with
    | [y0, y1, y2, y3], _ =>
      obtain ⟨a, rfl, ha⟩ := one_int (v := c0) (hf 0 _ rfl)
      obtain ⟨b, rfl, hb⟩ := one_int (v := c1) (hf 1 _ rfl)
      obtain ⟨c, rfl, hc⟩ := one_int (v := c2) (hf 2 _ rfl)
      obtain ⟨e, rfl, he⟩ := one_int (v := c3) (hf 3 _ rfl)
      exact ⟨a, b, c, e, rfl, ha, hb, hc, he⟩

set_option maxRecDepth 100000 in
theorem cells_ends08 : Try.prog.cellsOf 85 = 4 := by kernel_rfl
set_option maxRecDepth 100000 in
theorem open_ends08 {v : Value} {d : DataW H} {p : List MemPlace} (hv : Value.okWide Try.prog w r b0 85 v) (h : DataW.Trod enc Try.prog w base spare held 85 v d p) : ∃ x y z u, v = .agg #[.int .i64 x, .int .i64 y, .int .i64 z, .int .i64 u] ∧ InI x ∧ InI y ∧ InI z ∧ InI u := by
  obtain ⟨cs, rfl, hsz⟩ := okWide_struct Try.underlying85 hv
  obtain ⟨l⟩ := cs
  rw [cells_ends08] at hsz
  match l, hsz with
  | [c0, c1, c2, c3], _ =>
    obtain ⟨fuel, hf⟩ := h
    obtain ⟨xs, n, _, _, _, hlen, hf⟩ := DataW.trod_struct Try.underlying85 hf
    match xs, hlen with
    | [y0, y1], _ =>
      obtain ⟨a, b, rfl, rfl, ha, hb⟩ := trod_two (c0 := c0) (c1 := c1) Try.underlying49 ⟨rfl, rfl⟩ ⟨rfl, rfl⟩ (hf 0 _ rfl)
      obtain ⟨c, e, rfl, rfl, hc, he⟩ := trod_two (c0 := c2) (c1 := c3) Try.underlying49 ⟨rfl, rfl⟩ ⟨rfl, rfl⟩ (hf 1 _ rfl)
      exact ⟨a, b, c, e, rfl, ha, hb, hc, he⟩
end
end Go.Proofs.Ytkonojjillcfiaa
