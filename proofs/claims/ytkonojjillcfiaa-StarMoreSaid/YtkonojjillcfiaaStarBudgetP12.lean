/- Part 12 of 14 of the proof of StarBudget. -/
import Derived.Test.YtkonojjillcfiaaStarBudgetP11
set_option linter.all false
set_option linter.unusedVariables false
set_option linter.unusedSimpArgs false
/- The law FloodBacks. -/
namespace Go.Proofs.Ytkonojjillcfiaa
open Go.RowKit

theorem fWithin_some {w : World} {W H : Int} {a : Option Addr} {l : List Int} (c : Nat) (bx byy bw bh x y : Int) (hr : Row16 w a l) (hu : U16s l) :
    Calls Try.prog 35 #[.agg #[.int .i64 W, .int .i64 H, .slice a l.length c], .agg #[.int .i64 bx, .int .i64 byy, .int .i64 bw, .int .i64 bh], .agg #[.int .i64 x, .int .i64 y]] w fun e w' => ∃ v, e = .returned (.tuple #[v, .int .i64 (lookE W H l.length bx byy bw bh x y)]) ∧ Ext w w' := by
  by_cases he : lookE W H l.length bx byy bw bh x y = 0
  · refine (fWithin_ok c he hr hu).mono ?_
    rintro e w' ⟨v, far, h1, h2, _⟩
    exact ⟨v, by rw [he]; exact h1, h2⟩
  · refine (fWithin_bad W H a l.length c bx byy bw bh x y he).mono ?_
    rintro e w' ⟨h1, h2⟩
    exact ⟨_, h1, h2⟩

theorem far_slice {w : World} {base : Nat} {v : Value} {far : Nat → Int} {n : Nat} (h : Own u64E w base 53 v (farL far n)) (h0 : 0 < n) : ∃ g c, v = .slice (some ⟨g, 0, none⟩) n c ∧ FarAt w base g c far n := by
  have h' := h
  rcases h.2 with ⟨_, hz⟩ | ⟨g, cap, cur, hv', _⟩
  · rw [farL_len] at hz; omega
  · rw [farL_len] at hv'
    subst hv'
    exact ⟨g, cap, rfl, h'⟩

/-- sat.Add's sum. -/
def satS (a b : Int) : Int := if a + b ≤ 18446744073709551615 then a + b else 18446744073709551615

theorem backs_sat {G : Net} {s t : Nat} {f g : Nat → Int} (hn : G.n ≤ 1000000) (hf : IsFar G s f) (hg : IsFar G t g) (lf : FarLow G f) (lg : FarLow G g) (c0 : 0 ≤ G.cost s) (c1 : 0 ≤ G.cost t) : satS (f t) (G.cost s) = satS (g s) (G.cost t) := by
  have e1 : infI = 18446744073709551615 := rfl
  have a1 := hf.le t
  have a2 := hg.le s
  have key : f t < infI ∨ g s < infI → f t + G.cost s = g s + G.cost t := by
    intro h
    rcases h with h | h
    · have h1 := hf.backs hn hg lf h
      have h2 := lf t h
      have w1 := (hf.way_of h).ends
      have w2 := G.top s w1.1
      have w3 := G.pos t w1.2.1
      have h3 := hg.backs hn hf lg (by omega)
      omega
    · have h1 := hg.backs hn hf lg h
      have h2 := lg s h
      have w1 := (hg.way_of h).ends
      have w2 := G.top t w1.1
      have w3 := G.pos s w1.2.1
      have h3 := hf.backs hn hg lf (by omega)
      omega
  by_cases h : f t < infI ∨ g s < infI
  · have := key h
    unfold satS
    rw [this]
  · have h1 : f t = infI := by omega
    have h2 : g s = infI := by omega
    unfold satS
    rw [h1, h2, e1]
    split <;> split <;> omega

theorem map_sub {W H : Int} {l : List Int} {bx byy bw bh : Int} (L : LandP W H l bx byy bw bh) (L2 : LandP W H l 0 0 W H) : (mapNet L).Sub (mapNet L2) := by
  have hop : ∀ x y, openB l W bx byy bw bh x y = true → openB l W 0 0 W H x y = true := fun x y h => by
    have h1 := open_has h
    have h2 := L.in_ h1.1
    unfold openB
    rw [hasB_true.2 (by omega), decide_eq_true h1.2]
    rfl
  refine ⟨fun v hv => ?_, fun v _ => Int.le_refl _, fun u v _ _ hu => ?_⟩
  · have hv' : opV (openB l W bx byy bw bh) W l.length v = true := hv
    show opV _ _ _ v = true
    unfold opV at hv' ⊢
    simp only [Bool.and_eq_true] at hv' ⊢
    exact ⟨hv'.1, hop _ _ hv'.2⟩
  · obtain ⟨p, hp, he⟩ := List.mem_map.1 hu
    obtain ⟨k, hk, ho, e⟩ := mem_nbC.1 hp
    exact List.mem_map.2 ⟨p, mem_nbC.2 ⟨k, hk, hop _ _ ho, e⟩, he⟩

theorem look_whole {W H : Int} {n : Nat} {bx byy bw bh x y : Int} (h : lookE W H n bx byy bw bh x y = 0) : lookE W H n 0 0 W H x y = 0 := by
  obtain ⟨h1, h2, h3, h4⟩ := lookE_ok.1 h
  have a := mayB_true.1 h1
  have b := fitsR_true.1 h3
  have c := hasB_true.1 h4
  exact lookE_ok.2 ⟨h1, h2, fitsR_true.2 (by omega), hasB_true.2 (by omega)⟩

set_option maxRecDepth 100000 in
theorem fb_far {w : World} (W H : Int) (a : Option Addr) (n c : Nat) (bx byy bw bh fx fy tx ty : Int) (hn : ¬ (n : Int) ≤ 150) :
    Calls Try.prog 12 #[.agg #[.int .i64 W, .int .i64 H, .slice a n c], .agg #[.int .i64 bx, .int .i64 byy, .int .i64 bw, .int .i64 bh], .agg #[.int .i64 fx, .int .i64 fy, .int .i64 tx, .int .i64 ty]] w fun e w' => e = .returned (.bool true) ∧ Ext w w' := by
  have HS := hide (fun w' => small08_any W H a n c w')
  rw [show decide ((n : Int) ≤ 150) = false by simpa using hn] at HS
  clear hn
  go_enter Try.func12, Try.ntmps12
  go_wp2_with (first
    | (go_at_call 33; refine (HS.out _).mono ?_; rintro e w1 ⟨rfl, hb1⟩; obtain ⟨hc1, hf1⟩ := hb1.cells; have hz1 := hb1.size; (repeat (first | rw [World.size_alloc] at hz1 | rw [World.size_drew] at hz1)))
    | (go_at_call 34; refine (awake08_any _).mono ?_; rintro e w2 ⟨rfl, hb2⟩))
  go_ret
  exact ⟨rfl, (by (with_reducible (repeat' (first | exact Ext.refl _ | assumption | refine Ext.drew ?_ | refine Ext.drewN ?_ _ | refine Ext.alloc ?_ _ | refine Ext.setCell ?_ ?_ _ | refine Ext.trans ?_ (by assumption)))); all_goals (first | (simp; done) | (simp; omega)))⟩

set_option maxRecDepth 100000 in
theorem fb_bad {w : World} {W H : Int} {a : Option Addr} {l : List Int} (c : Nat) (bx byy bw bh fx fy tx ty : Int) (hr : Row16 w a l) (hu : U16s l) (hn : (l.length : Int) ≤ 150)
    (he : lookE W H l.length bx byy bw bh fx fy ≠ 0 ∨ lookE W H l.length bx byy bw bh tx ty ≠ 0) :
    Calls Try.prog 12 #[.agg #[.int .i64 W, .int .i64 H, .slice a l.length c], .agg #[.int .i64 bx, .int .i64 byy, .int .i64 bw, .int .i64 bh], .agg #[.int .i64 fx, .int .i64 fy, .int .i64 tx, .int .i64 ty]] w fun e w' => e = .returned (.bool true) ∧ Ext w w' := by
  have HS := hide (fun w' => small08_any W H a l.length c w')
  rw [show decide ((l.length : Int) ≤ 150) = true by simpa using hn] at HS
  have H1 := hide (fun (w' : World) (hx : Ext w w') => fWithin_some (W := W) (H := H) c bx byy bw bh fx fy (hr.ext hx) hu)
  have H2 := hide (fun (w' : World) (hx : Ext w w') => fWithin_some (W := W) (H := H) c bx byy bw bh tx ty (hr.ext hx) hu)
  generalize lookE W H l.length bx byy bw bh fx fy = e1 at *
  generalize lookE W H l.length bx byy bw bh tx ty = e2 at *
  obtain ⟨n, hnn⟩ : ∃ n, l.length = n := ⟨_, rfl⟩
  rw [hnn] at HS H1 H2 ⊢
  clear hr hu hn hnn
  have HE : (e1 != 0) = true ∨ (e1 != 0) = false ∧ (e2 != 0) = true := by
    by_cases h : e1 = 0
    · right
      exact ⟨by simp [h], by simpa using he.resolve_left (fun x => x h)⟩
    · left; simpa using h
  clear he
  rcases HE with h | ⟨h, h'⟩
  all_goals
    go_enter Try.func12, Try.ntmps12
    go_wp2_with (go_at_call 33; refine (HS.out _).mono ?_; rintro e w1 ⟨rfl, hb1⟩; obtain ⟨hc1, hf1⟩ := hb1.cells; have hz1 := hb1.size; (repeat (first | rw [World.size_alloc] at hz1 | rw [World.size_drew] at hz1)); have z1_0 : w.heap.size < w1.heap.size := (by omega); have z1_1 : w.heap.size + 1 < w1.heap.size := (by omega); have z1_2 : w.heap.size + 2 < w1.heap.size := (by omega))
    refine (H1.out _ (by (with_reducible (repeat' (first | exact Ext.refl _ | assumption | refine Ext.drew ?_ | refine Ext.drewN ?_ _ | refine Ext.alloc ?_ _ | refine Ext.setCell ?_ ?_ _ | refine Ext.trans ?_ (by assumption)))); all_goals (first | (simp; done) | (simp; omega)))).mono ?_
    rintro e w2 ⟨v1, rfl, hb2⟩
    obtain ⟨hc2, hf2⟩ := hb2.cells; have hz2 := hb2.size; (repeat (first | rw [World.size_alloc] at hz2 | rw [World.size_drew] at hz2)); have z2_0 : w.heap.size < w2.heap.size := (by omega); have z2_1 : w.heap.size + 1 < w2.heap.size := (by omega); have z2_2 : w.heap.size + 2 < w2.heap.size := (by omega)
    go_wp2_with fail
    refine (H2.out _ (by (with_reducible (repeat' (first | exact Ext.refl _ | assumption | refine Ext.drew ?_ | refine Ext.drewN ?_ _ | refine Ext.alloc ?_ _ | refine Ext.setCell ?_ ?_ _ | refine Ext.trans ?_ (by assumption)))); all_goals (first | (simp; done) | (simp; omega)))).mono ?_
    rintro e w3 ⟨v2, rfl, hb3⟩
    go_wp2_with (go_at_call 34; refine (awake08_any _).mono ?_; rintro e w4 ⟨rfl, hb4⟩)
    go_ret
    exact ⟨rfl, (by (with_reducible (repeat' (first | exact Ext.refl _ | assumption | refine Ext.drew ?_ | refine Ext.drewN ?_ _ | refine Ext.alloc ?_ _ | refine Ext.setCell ?_ ?_ _ | refine Ext.trans ?_ (by assumption)))); all_goals (first | (simp; done) | (simp; omega)))⟩

set_option maxRecDepth 100000 in
set_option maxHeartbeats 1000000 in
theorem fb_ok {w : World} {W H : Int} {a : Option Addr} {l : List Int} (c : Nat) (bx byy bw bh fx fy tx ty : Int) (hr : Row16 w a l) (hu : U16s l) (hn : (l.length : Int) ≤ 150)
    (he : lookE W H l.length bx byy bw bh fx fy = 0) (he2 : lookE W H l.length bx byy bw bh tx ty = 0) :
    Calls Try.prog 12 #[.agg #[.int .i64 W, .int .i64 H, .slice a l.length c], .agg #[.int .i64 bx, .int .i64 byy, .int .i64 bw, .int .i64 bh], .agg #[.int .i64 fx, .int .i64 fy, .int .i64 tx, .int .i64 ty]] w fun e w' => e = .returned (.bool true) ∧ Ext w w' := by
  have HS := hide (fun w' => small08_any W H a l.length c w')
  rw [show decide ((l.length : Int) ≤ 150) = true by simpa using hn] at HS
  have LP := landP_of he hu
  have LW := landP_of (look_whole he) hu
  have HSU := hide (map_sub LP LW)
  obtain ⟨G, hG⟩ : ∃ G, mapNet LP = G := ⟨_, rfl⟩
  obtain ⟨K, hK⟩ : ∃ K, mapNet LW = K := ⟨_, rfl⟩
  have H1 := hide (fun (w' : World) (hx : Ext w w') => (by have := fWithin_ok c he (hr.ext hx) hu; rw [show mapNet (landP_of he hu) = G from hG] at this; exact this : Calls Try.prog 35 #[.agg #[.int .i64 W, .int .i64 H, .slice a l.length c], .agg #[.int .i64 bx, .int .i64 byy, .int .i64 bw, .int .i64 bh], .agg #[.int .i64 fx, .int .i64 fy]] w' fun e w'' =>
      ∃ v far, e = .returned (.tuple #[v, .int .i64 0]) ∧ Ext w' w'' ∧ Own u64E w'' w'.heap.size 53 v (farL far l.length) ∧ IsFar G (idxN W (fx, fy)) far ∧ FarLow G far))
  have H2 := hide (fun (w' : World) (hx : Ext w w') => (by have := fWithin_ok c he2 (hr.ext hx) hu; rw [show mapNet (landP_of he2 hu) = G from hG] at this; exact this : Calls Try.prog 35 #[.agg #[.int .i64 W, .int .i64 H, .slice a l.length c], .agg #[.int .i64 bx, .int .i64 byy, .int .i64 bw, .int .i64 bh], .agg #[.int .i64 tx, .int .i64 ty]] w' fun e w'' =>
      ∃ v far, e = .returned (.tuple #[v, .int .i64 0]) ∧ Ext w' w'' ∧ Own u64E w'' w'.heap.size 53 v (farL far l.length) ∧ IsFar G (idxN W (tx, ty)) far ∧ FarLow G far))
  have H3 := hide (fun (w' : World) (hx : Ext w w') => (by have := fFrom_ok c (look_whole he) (hr.ext hx) hu; rw [show mapNet (landP_of (look_whole he) hu) = K from hK] at this; exact this : Calls Try.prog 39 #[.agg #[.int .i64 W, .int .i64 H, .slice a l.length c], .agg #[.int .i64 fx, .int .i64 fy]] w' fun e w'' =>
      ∃ v far, e = .returned (.tuple #[v, .int .i64 0]) ∧ Ext w' w'' ∧ Own u64E w'' w'.heap.size 53 v (farL far l.length) ∧ IsFar K (idxN W (fx, fy)) far ∧ FarLow K far))
  have HC := hide (fun w' => gCheck_any W H a l.length c w')
  obtain ⟨hm, hl, hf, hh⟩ := lookE_ok.1 he
  obtain ⟨_, _, _, hh2⟩ := lookE_ok.1 he2
  rw [checkE_ok.2 ⟨hm, hl⟩] at HC
  have i1 := LP.in_ hh
  have i2 := LP.in_ hh2
  have wh := LP.wh
  have x1 := idx_int (W := W) i1.1 (by omega) i1.2.2.1
  have x2 := idx_int (W := W) i2.1 (by omega) i2.2.2.1
  have n1 := LP.idx_lt i1
  have n2 := LP.idx_lt i2
  have wb1 := mul_bd (a := fy) (b := W) (A := 256) (B := 256) (by omega) (by omega) (by omega) (by omega)
  have wb2 := mul_bd (a := ty) (b := W) (A := 256) (B := 256) (by omega) (by omega) (by omega) (by omega)
  have k1 : IntKind.i64.wrap (fy * W) = fy * W := IntWalk.i64_in _ (by omega)
  have k2 : IntKind.i64.wrap (ty * W) = ty * W := IntWalk.i64_in _ (by omega)
  have k3 : IntKind.i64.wrap (fy * W + fx) = fy * W + fx := IntWalk.i64_in _ (by omega)
  have k4 : IntKind.i64.wrap (ty * W + tx) = ty * W + tx := IntWalk.i64_in _ (by omega)
  obtain ⟨ab, off, hae, zab, kc1⟩ := cost_cell hr hl i1.1 i1.2.1 i1.2.2.1 i1.2.2.2
  obtain ⟨ab', off', hae', _, kc2⟩ := cost_cell hr hl i2.1 i2.2.1 i2.2.2.1 i2.2.2.2
  rw [hae] at hae'
  injection hae' with hae'
  injection hae' with ea eo
  subst ea
  subst eo
  obtain ⟨s, hs⟩ : ∃ s, idxN W (fx, fy) = s := ⟨_, rfl⟩
  obtain ⟨t, ht⟩ : ∃ t, idxN W (tx, ty) = t := ⟨_, rfl⟩
  have cs0 : costI l W (fx, fy) = G.cost s := by rw [cost_idx, hs, ← hG]; rfl
  have ct0 : costI l W (tx, ty) = G.cost t := by rw [cost_idx, ht, ← hG]; rfl
  have cb1 := costI_bd hu W (fx, fy)
  have cb2 := costI_bd hu W (tx, ty)
  rw [cs0] at kc1 cb1
  rw [ct0] at kc2 cb2
  rw [hs] at x1 n1 H1 H3
  rw [ht] at x2 n2 H2
  rw [show (fy * W + fx).toNat = s by omega] at kc1
  rw [show (ty * W + tx).toNat = t by omega] at kc2
  have k3' : IntKind.i64.wrap (fy * W + fx) = (s : Int) := k3.trans x1.symm
  have k4' : IntKind.i64.wrap (ty * W + tx) = (t : Int) := k4.trans x2.symm
  clear k3 k4
  have HGN := hide (show G.n = l.length by rw [← hG]; rfl)
  have HSU2 : Hid (G.Sub K) := hide (by rw [← hG, ← hK]; exact HSU.out)
  have X1 := hide x1
  have X2 := hide x2
  obtain ⟨n, hnn⟩ : ∃ n, l.length = n := ⟨_, rfl⟩
  rw [hnn] at HS H1 H2 H3 HC n1 n2 HGN hn ⊢
  subst hae
  clear hr hu hnn HSU hG hK hm hl hf hh hh2 he he2 i1 i2 hs ht cs0 ct0 LP LW x1 x2 wb1 wb2
  go_enter Try.func12, Try.ntmps12
  go_wp2_with (go_at_call 33; refine (HS.out _).mono ?_; rintro e w1 ⟨rfl, hb1⟩; obtain ⟨hc1, hf1⟩ := hb1.cells; have hz1 := hb1.size; (repeat (first | rw [World.size_alloc] at hz1 | rw [World.size_drew] at hz1)); have z1_0 : w.heap.size < w1.heap.size := (by omega); have z1_1 : w.heap.size + 1 < w1.heap.size := (by omega); have z1_2 : w.heap.size + 2 < w1.heap.size := (by omega))
  refine (H1.out _ (by (with_reducible (repeat' (first | exact Ext.refl _ | assumption | refine Ext.drew ?_ | refine Ext.drewN ?_ _ | refine Ext.alloc ?_ _ | refine Ext.setCell ?_ ?_ _ | refine Ext.trans ?_ (by assumption)))); all_goals (first | (simp; done) | (simp; omega)))).mono ?_
  rintro e w2 ⟨v1, f1, rfl, hb2, hv1, F1, L1⟩
  obtain ⟨hc2, hf2⟩ := hb2.cells; have hz2 := hb2.size; (repeat (first | rw [World.size_alloc] at hz2 | rw [World.size_drew] at hz2)); have z2_0 : w.heap.size < w2.heap.size := (by omega); have z2_1 : w.heap.size + 1 < w2.heap.size := (by omega); have z2_2 : w.heap.size + 2 < w2.heap.size := (by omega)
  obtain ⟨g1, c1, rfl, A1⟩ := far_slice hv1 (by omega)
  have A1h := hide A1
  have FF1 := hide F1
  have LL1 := hide L1
  clear hv1 A1 F1 L1
  go_wp2_with fail
  refine (H2.out _ (by (with_reducible (repeat' (first | exact Ext.refl _ | assumption | refine Ext.drew ?_ | refine Ext.drewN ?_ _ | refine Ext.alloc ?_ _ | refine Ext.setCell ?_ ?_ _ | refine Ext.trans ?_ (by assumption)))); all_goals (first | (simp; done) | (simp; omega)))).mono ?_
  rintro e w3 ⟨v2, f2, rfl, hb3, hv2, F2, L2⟩
  obtain ⟨hc3, hf3⟩ := hb3.cells; have hz3 := hb3.size; (repeat (first | rw [World.size_alloc] at hz3 | rw [World.size_drew] at hz3)); have z3_0 : w.heap.size < w3.heap.size := (by omega); have z3_1 : w.heap.size + 1 < w3.heap.size := (by omega); have z3_2 : w.heap.size + 2 < w3.heap.size := (by omega)
  obtain ⟨g2, c2, rfl, A2⟩ := far_slice hv2 (by omega)
  have A2h := hide A2
  have A1h3 := hide (A1h.out.ext hb3)
  have FF2 := hide F2
  have LL2 := hide L2
  clear hv2 A2 F2 L2 A1h
  go_wp2_with (go_at_call 48; refine (HC.out _).mono ?_; rintro e w4 ⟨rfl, hb4⟩; obtain ⟨hc4, hf4⟩ := hb4.cells; have hz4 := hb4.size; (repeat (first | rw [World.size_alloc] at hz4 | rw [World.size_drew] at hz4)); have z4_0 : w.heap.size < w4.heap.size := (by omega); have z4_1 : w.heap.size + 1 < w4.heap.size := (by omega); have z4_2 : w.heap.size + 2 < w4.heap.size := (by omega))
  have hx4 : Ext w w4 := (by (with_reducible (repeat' (first | exact Ext.refl _ | assumption | refine Ext.drew ?_ | refine Ext.drewN ?_ _ | refine Ext.alloc ?_ _ | refine Ext.setCell ?_ ?_ _ | refine Ext.trans ?_ (by assumption)))); all_goals (first | (simp; done) | (simp; omega)))
  have bx0 : ∀ o, w4.cell? ⟨w.heap.size, o, none⟩ = w1.cell? ⟨w.heap.size, o, none⟩ := fun o => by rw [hc4 _ _ z3_0, hc3 _ _ z2_0, hc2 _ _ z1_0]
  have bx1 : ∀ o, w4.cell? ⟨w.heap.size + 1, o, none⟩ = w1.cell? ⟨w.heap.size + 1, o, none⟩ := fun o => by rw [hc4 _ _ z3_1, hc3 _ _ z2_1, hc2 _ _ z1_1]
  have bx2 : ∀ o, w4.cell? ⟨w.heap.size + 2, o, none⟩ = w1.cell? ⟨w.heap.size + 2, o, none⟩ := fun o => by rw [hc4 _ _ z3_2, hc3 _ _ z2_2, hc2 _ _ z1_2]
  have q0 : w4.cell? ⟨w.heap.size, 0, none⟩ = some (.int .i64 W) := by rw [bx0, hc1 _ _ (by simp; omega)]; simp [go_sem]
  have q1 : w4.cell? ⟨w.heap.size, 1, none⟩ = some (.int .i64 H) := by rw [bx0, hc1 _ _ (by simp; omega)]; simp [go_sem]
  have q2 : w4.cell? ⟨w.heap.size, 2, none⟩ = some (.slice (some ⟨ab, off, none⟩) n c) := by rw [bx0, hc1 _ _ (by simp; omega)]; simp [go_sem]
  have q3 : w4.cell? ⟨w.heap.size + 2, 0, none⟩ = some (.int .i64 fx) := by rw [bx2, hc1 _ _ (by simp)]; simp [go_sem]
  have q4 : w4.cell? ⟨w.heap.size + 2, 1, none⟩ = some (.int .i64 fy) := by rw [bx2, hc1 _ _ (by simp)]; simp [go_sem]
  have A14 := hide (A1h3.out.ext hb4)
  have A24 := hide (A2h.out.ext hb4)
  have y1 := (A14.out.cell n2).1
  have y2 := (A24.out.cell n1).1
  have y3 := (hx4.cell (p := ⟨ab, off + s, none⟩) zab).trans kc1
  have y4 := (hx4.cell (p := ⟨ab, off + t, none⟩) zab).trans kc2
  obtain ⟨cs, hcs⟩ : ∃ x, G.cost s = x := ⟨_, rfl⟩
  obtain ⟨ct, hct⟩ : ∃ x, G.cost t = x := ⟨_, rfl⟩
  have hsat := backs_sat (by rw [HGN.out]; omega) FF1.out FF2.out LL1.out LL2.out cb1.1 cb2.1
  have b1 := FF1.out.nn t
  have b2 := FF1.out.le t
  have b3 := FF2.out.nn s
  have b4 := FF2.out.le s
  have b5 : infI = 18446744073709551615 := rfl
  rw [hcs] at y3 cb1 hsat
  rw [hct] at y4 cb2 hsat
  obtain ⟨u1, hu1⟩ : ∃ x, f1 t = x := ⟨_, rfl⟩
  obtain ⟨u2, hu2⟩ : ∃ x, f2 s = x := ⟨_, rfl⟩
  rw [hu1] at y1 b1 b2 hsat
  rw [hu2] at y2 b3 b4 hsat
  rw [b5] at b2 b4
  have k8 : IntKind.u64.wrap cs = cs := by rw [IntKind.wrap_u64]; omega
  have k9 : IntKind.u64.wrap ct = ct := by rw [IntKind.wrap_u64]; omega
  have S1 := hide (fun w' => satAdd_any u1 cs w' b1 cb1.1 b2 (by omega))
  have S2 := hide (fun w' => satAdd_any u2 ct w' b3 cb2.1 b4 (by omega))
  have e1 : (if u1 + cs ≤ 18446744073709551615 then u1 + cs else 18446744073709551615) = satS u1 cs := rfl
  have e2 : (if u2 + ct ≤ 18446744073709551615 then u2 + ct else 18446744073709551615) = satS u2 ct := rfl
  rw [e1, hsat] at S1
  rw [e2] at S2
  obtain ⟨sv, hsv⟩ : ∃ x, satS u2 ct = x := ⟨_, rfl⟩
  rw [hsv] at S1 S2
  have m1 : (s : Int) < (n : Int) := by omega
  have m2 : (t : Int) < (n : Int) := by omega
  have d1 : decide ((n : Int) ≤ (s : Int)) = false := by simp; omega
  have d2 : decide ((n : Int) ≤ (t : Int)) = false := by simp; omega
  have d3 : decide (n ≤ s) = false := by simp; omega
  have d4 : decide (n ≤ t) = false := by simp; omega
  have Q2 := hide q2
  have Y := hide (show _ ∧ _ ∧ _ ∧ _ from ⟨y1, y2, y3, y4⟩)
  have HX4 := hide hx4
  have zz : w.heap.size + 2 < w4.heap.size := z4_2
  have za : ab < w4.heap.size := Nat.lt_of_lt_of_le zab hx4.size
  have zq1 := A14.out.lt.2
  have zq2 := A24.out.lt.2
  have Q34 := hide (show _ ∧ _ ∧ _ ∧ _ ∧ _ from ⟨q0, q1, q2, q3, q4⟩)
  clear hc1 hc2 hc3 hc4 hf1 hf2 hf3 hf4 hb1 hb2 hb3 hb4 bx0 bx1 bx2 hx4 hsat hcs hct hu1 hu2 e1 e2 hsv kc1 kc2 HS HC A1h3 A2h y1 y2 y3 y4 q0 q1 q2 q3 q4
  refine wp_region_held_drew (S := (fun W' => W'.cell? ⟨w.heap.size, 2, none⟩ = some (.slice (some ⟨ab, off, none⟩) n c) ∧ W'.cell? ⟨g1, t, none⟩ = some (.int .u64 u1) ∧ W'.cell? ⟨g2, s, none⟩ = some (.int .u64 u2) ∧ W'.cell? ⟨ab, off + s, none⟩ = some (.int .u16 cs) ∧ W'.cell? ⟨ab, off + t, none⟩ = some (.int .u16 ct))) (by kernel_rfl) (⟨Q2.out, Y.out.1, Y.out.2.1, Y.out.2.2.1, Y.out.2.2.2⟩) (fun hHeld => ?_)
  (((refine wpAnyH_take (i := 0) (oi := ?g71_o) (v := ?g71_v) ?g71_hi (by kernel_rfl) (by kernel_rfl) (by kernel_rfl) ?g71_hq ?g71_hy (by assumption) ?g71_gr; (case g71_hi => (simp only [List.getElem?_toArray, List.getElem?_cons_zero]; rfl)); (case g71_hq => exact fun _ _ _ h => h); (case g71_hy => (refine Or.inl ⟨by rfl, ?_⟩; intro w hSw; (try dsimp only at hSw); go_simp; try with_reducible rfl)); try simp only [Act.put, List.setIfInBounds_toArray, List.set_cons_zero, List.set_cons_succ])); ((refine wpAnyH_take (i := 1) (oi := ?g72_o) (v := ?g72_v) ?g72_hi (by kernel_rfl) (by kernel_rfl) (by kernel_rfl) ?g72_hq ?g72_hy (by assumption) ?g72_gr; (case g72_hi => (simp only [List.getElem?_toArray, List.getElem?_cons_succ, List.getElem?_cons_zero]; rfl)); (case g72_hq => exact fun _ _ _ h => h); (case g72_hy => (refine Or.inl ⟨by rfl, ?_⟩; intro w hSw; (try dsimp only at hSw); go_simp; try with_reducible rfl)); try simp only [Act.put, List.setIfInBounds_toArray, List.set_cons_zero, List.set_cons_succ])); ((refine wpAnyH_take (i := 2) (oi := ?g73_o) (v := ?g73_v) ?g73_hi (by kernel_rfl) (by kernel_rfl) (by kernel_rfl) ?g73_hq ?g73_hy (by assumption) ?g73_gr; (case g73_hi => (simp only [List.getElem?_toArray, List.getElem?_cons_succ, List.getElem?_cons_zero]; rfl)); (case g73_hq => exact fun _ _ _ h => h); (case g73_hy => (refine Or.inl ⟨by rfl, ?_⟩; intro w hSw; (try dsimp only at hSw); go_simp; try with_reducible rfl)); try simp only [Act.put, List.setIfInBounds_toArray, List.set_cons_zero, List.set_cons_succ])); ((refine wpAnyH_take (i := 3) (oi := ?g74_o) (v := ?g74_v) ?g74_hi (by kernel_rfl) (by kernel_rfl) (by kernel_rfl) ?g74_hq ?g74_hy (by assumption) ?g74_gr; (case g74_hi => (simp only [List.getElem?_toArray, List.getElem?_cons_succ, List.getElem?_cons_zero]; rfl)); (case g74_hq => exact fun _ _ _ h => h); (case g74_hy => (refine Or.inl ⟨by rfl, ?_⟩; intro w hSw; (try dsimp only at hSw); go_simp; try with_reducible rfl)); try simp only [Act.put, List.setIfInBounds_toArray, List.set_cons_zero, List.set_cons_succ])); ((refine wpAnyH_take (i := 4) (oi := ?g75_o) (v := ?g75_v) ?g75_hi (by kernel_rfl) (by kernel_rfl) (by kernel_rfl) ?g75_hq ?g75_hy (by assumption) ?g75_gr; (case g75_hi => (simp only [List.getElem?_toArray, List.getElem?_cons_succ, List.getElem?_cons_zero]; rfl)); (case g75_hq => exact fun _ _ _ h => h); (case g75_hy => (refine Or.inl ⟨by rfl, ?_⟩; intro w hSw; (try dsimp only at hSw); go_simp; try with_reducible rfl)); try simp only [Act.put, List.setIfInBounds_toArray, List.set_cons_zero, List.set_cons_succ])); ((refine wpAnyH_take (i := 5) (oi := ?g76_o) (v := ?g76_v) ?g76_hi (by kernel_rfl) (by kernel_rfl) (by kernel_rfl) ?g76_hq ?g76_hy (by assumption) ?g76_gr; (case g76_hi => (simp only [List.getElem?_toArray, List.getElem?_cons_succ, List.getElem?_cons_zero]; rfl)); (case g76_hq => exact fun _ _ _ h => h); (case g76_hy => (refine Or.inl ⟨by rfl, ?_⟩; intro w hSw; (try dsimp only at hSw); go_simp; try with_reducible rfl)); try simp only [Act.put, List.setIfInBounds_toArray, List.set_cons_zero, List.set_cons_succ])); ((refine wpAnyH_take (i := 6) (oi := ?g77_o) (v := ?g77_v) ?g77_hi (by kernel_rfl) (by kernel_rfl) (by kernel_rfl) ?g77_hq ?g77_hy (by assumption) ?g77_gr; (case g77_hi => (simp only [List.getElem?_toArray, List.getElem?_cons_succ, List.getElem?_cons_zero]; rfl)); (case g77_hq => exact fun _ _ _ h => h); (case g77_hy => (refine Or.inl ⟨by rfl, ?_⟩; intro w hSw; (try dsimp only at hSw); go_simp; try with_reducible rfl)); try simp only [Act.put, List.setIfInBounds_toArray, List.set_cons_zero, List.set_cons_succ])); ((refine wpAnyH_take (i := 7) (oi := ?g78_o) (v := ?g78_v) ?g78_hi (by kernel_rfl) (by kernel_rfl) (by kernel_rfl) ?g78_hq ?g78_hy (by assumption) ?g78_gr; (case g78_hi => (simp only [List.getElem?_toArray, List.getElem?_cons_succ, List.getElem?_cons_zero]; rfl)); (case g78_hq => exact fun _ _ _ h => h); (case g78_hy => (refine Or.inl ⟨by rfl, ?_⟩; intro w hSw; (try dsimp only at hSw); go_simp; try with_reducible rfl)); try simp only [Act.put, List.setIfInBounds_toArray, List.set_cons_zero, List.set_cons_succ])); ((refine wpAnyH_take (i := 8) (oi := ?g79_o) (v := ?g79_v) ?g79_hi (by kernel_rfl) (by kernel_rfl) (by kernel_rfl) ?g79_hq ?g79_hy (by assumption) ?g79_gr; (case g79_hi => (simp only [List.getElem?_toArray, List.getElem?_cons_succ, List.getElem?_cons_zero]; rfl)); (case g79_hq => exact fun _ _ _ h => h); (case g79_hy => (refine Or.inl ⟨by rfl, ?_⟩; intro w hSw; (try dsimp only at hSw); go_simp; try with_reducible rfl)); try simp only [Act.put, List.setIfInBounds_toArray, List.set_cons_zero, List.set_cons_succ])); ((refine wpAnyH_take (i := 9) (oi := ?g80_o) (v := ?g80_v) ?g80_hi (by kernel_rfl) (by kernel_rfl) (by kernel_rfl) ?g80_hq ?g80_hy (by assumption) ?g80_gr; (case g80_hi => (simp only [List.getElem?_toArray, List.getElem?_cons_succ, List.getElem?_cons_zero]; rfl)); (case g80_hq => exact fun _ _ _ h => h); (case g80_hy => (refine Or.inl ⟨by rfl, ?_⟩; intro w hSw; (try dsimp only at hSw); go_simp; try with_reducible rfl)); try simp only [Act.put, List.setIfInBounds_toArray, List.set_cons_zero, List.set_cons_succ])); ((refine wpAnyH_take (i := 10) (oi := ?g81_o) (v := ?g81_v) ?g81_hi (by kernel_rfl) (by kernel_rfl) (by kernel_rfl) ?g81_hq ?g81_hy (by assumption) ?g81_gr; (case g81_hi => (simp only [List.getElem?_toArray, List.getElem?_cons_succ, List.getElem?_cons_zero]; rfl)); (case g81_hq => exact fun _ _ _ h => h); (case g81_hy => (refine Or.inl ⟨by rfl, ?_⟩; intro w hSw; (try dsimp only at hSw); go_simp; try with_reducible rfl)); try simp only [Act.put, List.setIfInBounds_toArray, List.set_cons_zero, List.set_cons_succ])); ((refine wpAnyH_take (i := 11) (oi := ?g82_o) (v := ?g82_v) ?g82_hi (by kernel_rfl) (by kernel_rfl) (by kernel_rfl) ?g82_hq ?g82_hy (by assumption) ?g82_gr; (case g82_hi => (simp only [List.getElem?_toArray, List.getElem?_cons_succ, List.getElem?_cons_zero]; rfl)); (case g82_hq => exact fun _ _ _ h => h); (case g82_hy => (refine Or.inl ⟨by rfl, ?_⟩; intro w hSw; (try dsimp only at hSw); go_simp; try with_reducible rfl)); try simp only [Act.put, List.setIfInBounds_toArray, List.set_cons_zero, List.set_cons_succ])); ((refine wpAnyH_take (i := 12) (oi := ?g83_o) (v := ?g83_v) ?g83_hi (by kernel_rfl) (by kernel_rfl) (by kernel_rfl) ?g83_hq ?g83_hy (by assumption) ?g83_gr; (case g83_hi => (simp only [List.getElem?_toArray, List.getElem?_cons_succ, List.getElem?_cons_zero]; rfl)); (case g83_hq => exact fun _ _ _ h => h); (case g83_hy => (refine Or.inl ⟨by rfl, ?_⟩; intro w hSw; (try dsimp only at hSw); go_simp; try with_reducible rfl)); try simp only [Act.put, List.setIfInBounds_toArray, List.set_cons_zero, List.set_cons_succ])); ((refine wpAnyH_take (i := 13) (oi := ?g84_o) (v := ?g84_v) ?g84_hi (by kernel_rfl) (by kernel_rfl) (by kernel_rfl) ?g84_hq ?g84_hy (by assumption) ?g84_gr; (case g84_hi => (simp only [List.getElem?_toArray, List.getElem?_cons_succ, List.getElem?_cons_zero]; rfl)); (case g84_hq => exact fun _ _ _ h => h); (case g84_hy => (refine Or.inl ⟨by rfl, ?_⟩; intro w hSw; (try dsimp only at hSw); go_simp; try with_reducible rfl)); try simp only [Act.put, List.setIfInBounds_toArray, List.set_cons_zero, List.set_cons_succ])); ((refine wpAnyH_take (i := 14) (oi := ?g85_o) (v := ?g85_v) ?g85_hi (by kernel_rfl) (by kernel_rfl) (by kernel_rfl) ?g85_hq ?g85_hy (by assumption) ?g85_gr; (case g85_hi => (simp only [List.getElem?_toArray, List.getElem?_cons_succ, List.getElem?_cons_zero]; rfl)); (case g85_hq => exact fun _ _ _ h => h); (case g85_hy => (refine Or.inl ⟨by rfl, ?_⟩; intro w hSw; (try dsimp only at hSw); go_simp; try with_reducible rfl)); try simp only [Act.put, List.setIfInBounds_toArray, List.set_cons_zero, List.set_cons_succ])); ((refine wpAnyH_take (i := 15) (oi := ?g86_o) (v := ?g86_v) ?g86_hi (by kernel_rfl) (by kernel_rfl) (by kernel_rfl) ?g86_hq ?g86_hy (by assumption) ?g86_gr; (case g86_hi => (simp only [List.getElem?_toArray, List.getElem?_cons_succ, List.getElem?_cons_zero]; rfl)); (case g86_hq => exact fun _ _ _ h => h); (case g86_hy => (refine Or.inl ⟨by rfl, ?_⟩; intro w hSw; (try dsimp only at hSw); go_simp; try with_reducible rfl)); try simp only [Act.put, List.setIfInBounds_toArray, List.set_cons_zero, List.set_cons_succ])); ((refine wpAnyH_take (i := 16) (oi := ?g87_o) (v := ?g87_v) ?g87_hi (by kernel_rfl) (by kernel_rfl) (by kernel_rfl) ?g87_hq ?g87_hy (by assumption) ?g87_gr; (case g87_hi => (simp only [List.getElem?_toArray, List.getElem?_cons_succ, List.getElem?_cons_zero]; rfl)); (case g87_hq => exact fun _ _ _ h => h); (case g87_hy => (refine Or.inl ⟨by rfl, ?_⟩; intro w hSw; (try dsimp only at hSw); go_simp; try with_reducible rfl)); try simp only [Act.put, List.setIfInBounds_toArray, List.set_cons_zero, List.set_cons_succ])); ((refine wpAnyH_take (i := 17) (oi := ?g88_o) (v := ?g88_v) ?g88_hi (by kernel_rfl) (by kernel_rfl) (by kernel_rfl) ?g88_hq ?g88_hy (by assumption) ?g88_gr; (case g88_hi => (simp only [List.getElem?_toArray, List.getElem?_cons_succ, List.getElem?_cons_zero]; rfl)); (case g88_hq => exact fun _ _ _ h => h); (case g88_hy => (refine Or.inl ⟨by rfl, ?_⟩; intro w hSw; (try dsimp only at hSw); go_simp; try with_reducible rfl)); try simp only [Act.put, List.setIfInBounds_toArray, List.set_cons_zero, List.set_cons_succ])); ((refine wpAnyH_take (i := 18) (oi := ?g89_o) (v := ?g89_v) ?g89_hi (by kernel_rfl) (by kernel_rfl) (by kernel_rfl) ?g89_hq ?g89_hy (by assumption) ?g89_gr; (case g89_hi => (simp only [List.getElem?_toArray, List.getElem?_cons_succ, List.getElem?_cons_zero]; rfl)); (case g89_hq => exact fun _ _ _ h => h); (case g89_hy => (refine Or.inl ⟨by rfl, ?_⟩; intro w hSw; (try dsimp only at hSw); go_simp; try with_reducible rfl)); try simp only [Act.put, List.setIfInBounds_toArray, List.set_cons_zero, List.set_cons_succ])); ((refine wpAnyH_take (i := 19) (oi := ?g90_o) (v := ?g90_v) ?g90_hi (by kernel_rfl) (by kernel_rfl) (by kernel_rfl) ?g90_hq ?g90_hy (by assumption) ?g90_gr; (case g90_hi => (simp only [List.getElem?_toArray, List.getElem?_cons_succ, List.getElem?_cons_zero]; rfl)); (case g90_hq => exact fun _ _ _ h => h); (case g90_hy => (refine Or.inl ⟨by rfl, ?_⟩; intro w hSw; (try dsimp only at hSw); go_simp; try with_reducible rfl)); try simp only [Act.put, List.setIfInBounds_toArray, List.set_cons_zero, List.set_cons_succ])); ((refine wpAnyH_take (i := 20) (oi := ?g91_o) (v := ?g91_v) ?g91_hi (by kernel_rfl) (by kernel_rfl) (by kernel_rfl) ?g91_hq ?g91_hy (by assumption) ?g91_gr; (case g91_hi => (simp only [List.getElem?_toArray, List.getElem?_cons_succ, List.getElem?_cons_zero]; rfl)); (case g91_hq => exact fun _ _ _ h => h); (case g91_hy => (refine Or.inl ⟨by rfl, ?_⟩; intro w hSw; (try dsimp only at hSw); go_simp; try with_reducible rfl)); try simp only [Act.put, List.setIfInBounds_toArray, List.set_cons_zero, List.set_cons_succ])); ((refine wpAnyH_take (i := 21) (oi := ?g92_o) (v := ?g92_v) ?g92_hi (by kernel_rfl) (by kernel_rfl) (by kernel_rfl) ?g92_hq ?g92_hy (by assumption) ?g92_gr; (case g92_hi => (simp only [List.getElem?_toArray, List.getElem?_cons_succ, List.getElem?_cons_zero]; rfl)); (case g92_hq => exact fun _ _ _ h => h); (case g92_hy => (refine Or.inl ⟨by rfl, ?_⟩; intro w hSw; (try dsimp only at hSw); go_simp; try with_reducible rfl)); try simp only [Act.put, List.setIfInBounds_toArray, List.set_cons_zero, List.set_cons_succ])); ((refine wpAnyH_take (i := 22) (oi := ?g93_o) (v := ?g93_v) ?g93_hi (by kernel_rfl) (by kernel_rfl) (by kernel_rfl) ?g93_hq ?g93_hy (by assumption) ?g93_gr; (case g93_hi => (simp only [List.getElem?_toArray, List.getElem?_cons_succ, List.getElem?_cons_zero]; rfl)); (case g93_hq => exact fun _ _ _ h => h); (case g93_hy => (refine Or.inl ⟨by rfl, ?_⟩; intro w hSw; (try dsimp only at hSw); go_simp; try with_reducible rfl)); try simp only [Act.put, List.setIfInBounds_toArray, List.set_cons_zero, List.set_cons_succ])); ((refine wpAnyH_take (i := 23) (oi := ?g94_o) (v := ?g94_v) ?g94_hi (by kernel_rfl) (by kernel_rfl) (by kernel_rfl) ?g94_hq ?g94_hy (by assumption) ?g94_gr; (case g94_hi => (simp only [List.getElem?_toArray, List.getElem?_cons_succ, List.getElem?_cons_zero]; rfl)); (case g94_hq => exact fun _ _ _ h => h); (case g94_hy => (refine Or.inl ⟨by rfl, ?_⟩; intro w hSw; (try dsimp only at hSw); go_simp; try with_reducible rfl)); try simp only [Act.put, List.setIfInBounds_toArray, List.set_cons_zero, List.set_cons_succ])); ((refine wpAnyH_take (i := 24) (oi := ?g95_o) (v := ?g95_v) ?g95_hi (by kernel_rfl) (by kernel_rfl) (by kernel_rfl) ?g95_hq ?g95_hy (by assumption) ?g95_gr; (case g95_hi => (simp only [List.getElem?_toArray, List.getElem?_cons_succ, List.getElem?_cons_zero]; rfl)); (case g95_hq => exact fun _ _ _ h => h); (case g95_hy => (refine Or.inl ⟨by rfl, ?_⟩; intro w hSw; (try dsimp only at hSw); go_simp; try with_reducible rfl)); try simp only [Act.put, List.setIfInBounds_toArray, List.set_cons_zero, List.set_cons_succ])); ((refine wpAnyH_take (i := 25) (oi := ?g96_o) (v := ?g96_v) ?g96_hi (by kernel_rfl) (by kernel_rfl) (by kernel_rfl) ?g96_hq ?g96_hy (by assumption) ?g96_gr; (case g96_hi => (simp only [List.getElem?_toArray, List.getElem?_cons_succ, List.getElem?_cons_zero]; rfl)); (case g96_hq => exact fun _ _ _ h => h); (case g96_hy => (refine Or.inl ⟨by rfl, ?_⟩; intro w hSw; (try dsimp only at hSw); go_simp; try with_reducible rfl)); try simp only [Act.put, List.setIfInBounds_toArray, List.set_cons_zero, List.set_cons_succ])); ((refine wpAnyH_take (i := 26) (oi := ?g97_o) (v := ?g97_v) ?g97_hi (by kernel_rfl) (by kernel_rfl) (by kernel_rfl) ?g97_hq ?g97_hy (by assumption) ?g97_gr; (case g97_hi => (simp only [List.getElem?_toArray, List.getElem?_cons_succ, List.getElem?_cons_zero]; rfl)); (case g97_hq => exact fun _ _ _ h => h); (case g97_hy => (refine Or.inl ⟨by rfl, ?_⟩; intro w hSw; (try dsimp only at hSw); go_simp; try with_reducible rfl)); try simp only [Act.put, List.setIfInBounds_toArray, List.set_cons_zero, List.set_cons_succ])); ((refine wpAnyH_take (i := 27) (oi := ?g98_o) (v := ?g98_v) ?g98_hi (by kernel_rfl) (by kernel_rfl) (by kernel_rfl) ?g98_hq ?g98_hy (by assumption) ?g98_gr; (case g98_hi => (simp only [List.getElem?_toArray, List.getElem?_cons_succ, List.getElem?_cons_zero]; rfl)); (case g98_hq => exact fun _ _ _ h => h); (case g98_hy => (refine Or.inl ⟨by rfl, ?_⟩; intro w hSw; (try dsimp only at hSw); go_simp; try with_reducible rfl)); try simp only [Act.put, List.setIfInBounds_toArray, List.set_cons_zero, List.set_cons_succ])); ((refine wpAnyH_take (i := 28) (oi := ?g99_o) (v := ?g99_v) ?g99_hi (by kernel_rfl) (by kernel_rfl) (by kernel_rfl) ?g99_hq ?g99_hy (by assumption) ?g99_gr; (case g99_hi => (simp only [List.getElem?_toArray, List.getElem?_cons_succ, List.getElem?_cons_zero]; rfl)); (case g99_hq => exact fun _ _ _ h => h); (case g99_hy => (refine Or.inl ⟨by rfl, ?_⟩; intro w hSw; (try dsimp only at hSw); go_simp; try with_reducible rfl)); try simp only [Act.put, List.setIfInBounds_toArray, List.set_cons_zero, List.set_cons_succ])); ((refine wpAnyH_take (i := 30) (oi := ?g100_o) (v := ?g100_v) ?g100_hi (by kernel_rfl) (by kernel_rfl) (by kernel_rfl) ?g100_hq ?g100_hy (by assumption) ?g100_gr; (case g100_hi => (simp only [List.getElem?_toArray, List.getElem?_cons_succ, List.getElem?_cons_zero]; rfl)); (case g100_hq => exact fun _ _ _ h => h); (case g100_hy => (refine Or.inl ⟨by rfl, ?_⟩; intro w hSw; (try dsimp only at hSw); go_simp; try with_reducible rfl)); try simp only [Act.put, List.setIfInBounds_toArray, List.set_cons_zero, List.set_cons_succ])); ((refine wpAnyH_take (i := 31) (oi := ?g101_o) (v := ?g101_v) ?g101_hi (by kernel_rfl) (by kernel_rfl) (by kernel_rfl) ?g101_hq ?g101_hy (by assumption) ?g101_gr; (case g101_hi => (simp only [List.getElem?_toArray, List.getElem?_cons_succ, List.getElem?_cons_zero]; rfl)); (case g101_hq => exact fun _ _ _ h => h); (case g101_hy => (refine Or.inl ⟨by rfl, ?_⟩; intro w hSw; (try dsimp only at hSw); go_simp; try with_reducible rfl)); try simp only [Act.put, List.setIfInBounds_toArray, List.set_cons_zero, List.set_cons_succ])); ((refine wpAnyH_take (i := 32) (oi := ?g102_o) (v := ?g102_v) ?g102_hi (by kernel_rfl) (by kernel_rfl) (by kernel_rfl) ?g102_hq ?g102_hy (by assumption) ?g102_gr; (case g102_hi => (simp only [List.getElem?_toArray, List.getElem?_cons_succ, List.getElem?_cons_zero]; rfl)); (case g102_hq => exact fun _ _ _ h => h); (case g102_hy => (refine Or.inl ⟨by rfl, ?_⟩; intro w hSw; (try dsimp only at hSw); go_simp; try with_reducible rfl)); try simp only [Act.put, List.setIfInBounds_toArray, List.set_cons_zero, List.set_cons_succ])); ((refine wpAnyH_take (i := 33) (oi := ?g103_o) (v := ?g103_v) ?g103_hi (by kernel_rfl) (by kernel_rfl) (by kernel_rfl) ?g103_hq ?g103_hy (by assumption) ?g103_gr; (case g103_hi => (simp only [List.getElem?_toArray, List.getElem?_cons_succ, List.getElem?_cons_zero]; rfl)); (case g103_hq => exact fun _ _ _ h => h); (case g103_hy => (refine Or.inl ⟨by rfl, ?_⟩; intro w hSw; (try dsimp only at hSw); go_simp; try with_reducible rfl)); try simp only [Act.put, List.setIfInBounds_toArray, List.set_cons_zero, List.set_cons_succ])); ((refine wpAnyH_take (i := 34) (oi := ?g104_o) (v := ?g104_v) ?g104_hi (by kernel_rfl) (by kernel_rfl) (by kernel_rfl) ?g104_hq ?g104_hy (by assumption) ?g104_gr; (case g104_hi => (simp only [List.getElem?_toArray, List.getElem?_cons_succ, List.getElem?_cons_zero]; rfl)); (case g104_hq => exact fun _ _ _ h => h); (case g104_hy => (refine Or.inl ⟨by rfl, ?_⟩; intro w hSw; (try dsimp only at hSw); go_simp; try with_reducible rfl)); try simp only [Act.put, List.setIfInBounds_toArray, List.set_cons_zero, List.set_cons_succ])); ((refine wpAnyH_take (i := 35) (oi := ?g105_o) (v := ?g105_v) ?g105_hi (by kernel_rfl) (by kernel_rfl) (by kernel_rfl) ?g105_hq ?g105_hy (by assumption) ?g105_gr; (case g105_hi => (simp only [List.getElem?_toArray, List.getElem?_cons_succ, List.getElem?_cons_zero]; rfl)); (case g105_hq => exact fun _ _ _ h => h); (case g105_hy => (refine Or.inl ⟨by rfl, ?_⟩; intro w hSw; (try dsimp only at hSw); go_simp; try with_reducible rfl)); try simp only [Act.put, List.setIfInBounds_toArray, List.set_cons_zero, List.set_cons_succ])); ((refine wpAnyH_take (i := 36) (oi := ?g106_o) (v := ?g106_v) ?g106_hi (by kernel_rfl) (by kernel_rfl) (by kernel_rfl) ?g106_hq ?g106_hy (by assumption) ?g106_gr; (case g106_hi => (simp only [List.getElem?_toArray, List.getElem?_cons_succ, List.getElem?_cons_zero]; rfl)); (case g106_hq => exact fun _ _ _ h => h); (case g106_hy => (refine Or.inl ⟨by rfl, ?_⟩; intro w hSw; (try dsimp only at hSw); go_simp; try with_reducible rfl)); try simp only [Act.put, List.setIfInBounds_toArray, List.set_cons_zero, List.set_cons_succ])); ((refine wpAnyH_take (i := 37) (oi := ?g107_o) (v := ?g107_v) ?g107_hi (by kernel_rfl) (by kernel_rfl) (by kernel_rfl) ?g107_hq ?g107_hy (by assumption) ?g107_gr; (case g107_hi => (simp only [List.getElem?_toArray, List.getElem?_cons_succ, List.getElem?_cons_zero]; rfl)); (case g107_hq => exact fun _ _ _ h => h); (case g107_hy => (refine Or.inl ⟨by rfl, ?_⟩; intro w hSw; (try dsimp only at hSw); go_simp; try with_reducible rfl)); try simp only [Act.put, List.setIfInBounds_toArray, List.set_cons_zero, List.set_cons_succ])); ((refine wpAnyH_take (i := 38) (oi := ?g108_o) (v := ?g108_v) ?g108_hi (by kernel_rfl) (by kernel_rfl) (by kernel_rfl) ?g108_hq ?g108_hy (by assumption) ?g108_gr; (case g108_hi => (simp only [List.getElem?_toArray, List.getElem?_cons_succ, List.getElem?_cons_zero]; rfl)); (case g108_hq => exact fun _ _ _ h => h); (case g108_hy => (refine Or.inl ⟨by rfl, ?_⟩; intro w hSw; (try dsimp only at hSw); go_simp; try with_reducible rfl)); try simp only [Act.put, List.setIfInBounds_toArray, List.set_cons_zero, List.set_cons_succ])); ((refine wpAnyH_take (i := 39) (oi := ?g109_o) (v := ?g109_v) ?g109_hi (by kernel_rfl) (by kernel_rfl) (by kernel_rfl) ?g109_hq ?g109_hy (by assumption) ?g109_gr; (case g109_hi => (simp only [List.getElem?_toArray, List.getElem?_cons_succ, List.getElem?_cons_zero]; rfl)); (case g109_hq => exact fun _ _ _ h => h); (case g109_hy => (refine Or.inl ⟨by rfl, ?_⟩; intro w hSw; (try dsimp only at hSw); go_simp; try with_reducible rfl)); try simp only [Act.put, List.setIfInBounds_toArray, List.set_cons_zero, List.set_cons_succ])))
  (refine wpAnyH_ready (rs := [29]) (by kernel_rfl) (by simp) ?_; refine AllReadyH.cons (o := ?g110_o) ?g110_hi (fun K hK => ?_) AllReadyH.nil; (case g110_hi => (simp only [List.getElem?_toArray, List.getElem?_cons_succ, List.getElem?_cons_zero]; rfl)); go_simp; refine (S1.out _).mono ?_; rintro e w5 ⟨rfl, hx5⟩; have h45 : Ext w4 w5 := (by (with_reducible (repeat' (first | exact Ext.refl _ | assumption | refine Ext.drew ?_ | refine Ext.drewN ?_ _ | refine Ext.alloc ?_ _ | refine Ext.setCell ?_ ?_ _ | refine Ext.trans ?_ (by assumption)))); all_goals (first | (simp; done) | (simp; omega))); have T0 := hide ((h45.cell (p := ⟨w.heap.size, 2, none⟩) (show w.heap.size < w4.heap.size by omega)).trans Q2.out); have T1 := hide ((h45.cell (p := ⟨g1, t, none⟩) zq1).trans Y.out.1); have T2 := hide ((h45.cell (p := ⟨g2, s, none⟩) zq2).trans Y.out.2.1); have T3 := hide ((h45.cell (p := ⟨ab, off + s, none⟩) za).trans Y.out.2.2.1); have T4 := hide ((h45.cell (p := ⟨ab, off + t, none⟩) za).trans Y.out.2.2.2); go_wp2_with fail; refine hK.out _ _ (⟨T0.out, T1.out, T2.out, T3.out, T4.out⟩) (fun hHeld => ?_); clear hK K; try simp only [Act.put, List.setIfInBounds_toArray, List.set_cons_zero, List.set_cons_succ])
  (refine wpAnyH_ready (rs := [40]) (by kernel_rfl) (by simp) ?_; refine AllReadyH.cons (o := ?g111_o) ?g111_hi (fun K hK => ?_) AllReadyH.nil; (case g111_hi => (simp only [List.getElem?_toArray, List.getElem?_cons_succ, List.getElem?_cons_zero]; rfl)); go_simp; refine (S2.out _).mono ?_; rintro e w6 ⟨rfl, hx6⟩; have h46 : Ext w4 w6 := (by (with_reducible (repeat' (first | exact Ext.refl _ | assumption | refine Ext.drew ?_ | refine Ext.drewN ?_ _ | refine Ext.alloc ?_ _ | refine Ext.setCell ?_ ?_ _ | refine Ext.trans ?_ (by assumption)))); all_goals (first | (simp; done) | (simp; omega))); have V0 := hide ((h46.cell (p := ⟨w.heap.size, 2, none⟩) (show w.heap.size < w4.heap.size by omega)).trans Q2.out); have V1 := hide ((h46.cell (p := ⟨g1, t, none⟩) zq1).trans Y.out.1); have V2 := hide ((h46.cell (p := ⟨g2, s, none⟩) zq2).trans Y.out.2.1); have V3 := hide ((h46.cell (p := ⟨ab, off + s, none⟩) za).trans Y.out.2.2.1); have V4 := hide ((h46.cell (p := ⟨ab, off + t, none⟩) za).trans Y.out.2.2.2); go_wp2_with fail; refine hK.out _ _ (⟨V0.out, V1.out, V2.out, V3.out, V4.out⟩) (fun hHeld => ?_); clear hK K; try simp only [Act.put, List.setIfInBounds_toArray, List.set_cons_zero, List.set_cons_succ])
  (((refine wpAnyH_take (i := 41) (oi := ?g112_o) (v := ?g112_v) ?g112_hi (by kernel_rfl) (by kernel_rfl) (by kernel_rfl) ?g112_hq ?g112_hy (by assumption) ?g112_gr; (case g112_hi => (simp only [List.getElem?_toArray, List.getElem?_cons_succ, List.getElem?_cons_zero]; rfl)); (case g112_hq => exact fun _ _ _ h => h); (case g112_hy => (refine Or.inl ⟨by rfl, ?_⟩; intro w hSw; (try dsimp only at hSw); go_simp; try with_reducible rfl)); try simp only [Act.put, List.setIfInBounds_toArray, List.set_cons_zero, List.set_cons_succ])); ((refine wpAnyH_take (i := 42) (oi := ?g113_o) (v := ?g113_v) ?g113_hi (by kernel_rfl) (by kernel_rfl) (by kernel_rfl) ?g113_hq ?g113_hy (by assumption) ?g113_gr; (case g113_hi => (simp only [List.getElem?_toArray, List.getElem?_cons_succ, List.getElem?_cons_zero]; rfl)); (case g113_hq => exact fun _ _ _ h => h); (case g113_hy => (refine Or.inl ⟨by rfl, ?_⟩; intro w hSw; (try dsimp only at hSw); go_simp; try with_reducible rfl)); try simp only [Act.put, List.setIfInBounds_toArray, List.set_cons_zero, List.set_cons_succ])))
  refine wpAnyH_done (by kernel_rfl) ?_ _
  obtain ⟨q0, q1, q2, q3, q4⟩ := Q34.out
  have r0 := (h46.cell (p := ⟨w.heap.size, 0, none⟩) (show w.heap.size < w4.heap.size by omega)).trans q0
  have r1 := (h46.cell (p := ⟨w.heap.size, 1, none⟩) (show w.heap.size < w4.heap.size by omega)).trans q1
  have r2 := (h46.cell (p := ⟨w.heap.size, 2, none⟩) (show w.heap.size < w4.heap.size by omega)).trans q2
  have r3 := (h46.cell (p := ⟨w.heap.size + 2, 0, none⟩) zz).trans q3
  have r4 := (h46.cell (p := ⟨w.heap.size + 2, 1, none⟩) zz).trans q4
  have HX6 := hide (HX4.out.trans h46)
  have A16 := hide (A14.out.ext h46)
  have zz6 : w.heap.size + 2 < w6.heap.size := by have := h46.size; omega
  have zz60 : w.heap.size < w6.heap.size := by omega
  clear q0 q1 q2 q3 q4 h46 h45 hx6 hx5 T0 T1 T2 T3 T4 V0 V1 V2 V3 V4 Q34 S1 S2 A14 A24 za zz zq1 zq2 Q2 Y d1 d2 d3 d4 HX4
  go_wp2_with fail
  refine (H3.out _ HX6.out).mono ?_
  rintro e w7 ⟨v3, f3, rfl, hb7, hv3, F3, _⟩
  obtain ⟨g3, c3, rfl, A3⟩ := far_slice hv3 (by omega)
  have hle : ∀ v, f3 v ≤ f1 v := fun v => FF1.out.sub_le HSU2.out F3 v
  have HLE := hide hle
  have A37 := hide A3
  have A17 := hide (A16.out.ext hb7)
  have HX7 := hide (HX6.out.trans hb7)
  have z17 := A17.out.lt.2
  have z37 := A3.lt.2
  clear hv3 A3 hle hb7 r0 r1 r2 r3 r4 A16 HX6 F3 H1 H2 H3
  go_wp2_with fail
  go_loopw [15] (fun i wr => ∃ k : Nat, k ≤ n ∧ i = .int .i64 k ∧ Ext w7 wr) (fun i _ => n - (intOf i).toNat)
  case atStart => exact ⟨0, Nat.zero_le _, rfl, Ext.refl _⟩
  case round =>
    obtain ⟨k, hk, rfl, hext⟩ := hrel
    have HXr := hide hext
    have zr := hext.size
    by_cases hlt : k < n
    · have y1 := (((A17.out.ext hext)).cell hlt).1
      have y3 := (((A37.out.ext hext)).cell hlt).1
      have hd : decide (f1 k < f3 k) = false := by (have := HLE.out k); simp; omega
      have hki : (k : Int) < (n : Int) := by omega
      have hki0 : (0 : Int) ≤ (k : Int) := by omega
      obtain ⟨x1, hx1⟩ : ∃ x, f1 k = x := ⟨_, rfl⟩
      obtain ⟨x3, hx3⟩ : ∃ x, f3 k = x := ⟨_, rfl⟩
      rw [hx1] at y1 hd
      rw [hx3] at y3 hd
      have z1r : g1 < wr.heap.size := by omega
      have z3r : g3 < wr.heap.size := by omega
      clear hx1 hx3
      go_wp2_with fail
      refine wp_region_held_drew (S := (fun W' => W'.cell? ⟨g1, k, none⟩ = some (.int .u64 x1) ∧ W'.cell? ⟨g3, k, none⟩ = some (.int .u64 x3))) (by kernel_rfl) (⟨y1, y3⟩) (fun hHeld => ?_)
      (((refine wpAnyH_take (i := 0) (oi := ?g114_o) (v := ?g114_v) ?g114_hi (by kernel_rfl) (by kernel_rfl) (by kernel_rfl) ?g114_hq ?g114_hy (by assumption) ?g114_gr; (case g114_hi => (simp only [List.getElem?_toArray, List.getElem?_cons_zero]; rfl)); (case g114_hq => exact fun _ _ _ h => h); (case g114_hy => (refine Or.inl ⟨by rfl, ?_⟩; intro w hSw; (try dsimp only at hSw); go_simp; try with_reducible rfl)); try simp only [Act.put, List.setIfInBounds_toArray, List.set_cons_zero, List.set_cons_succ])); ((refine wpAnyH_take (i := 1) (oi := ?g115_o) (v := ?g115_v) ?g115_hi (by kernel_rfl) (by kernel_rfl) (by kernel_rfl) ?g115_hq ?g115_hy (by assumption) ?g115_gr; (case g115_hi => (simp only [List.getElem?_toArray, List.getElem?_cons_succ, List.getElem?_cons_zero]; rfl)); (case g115_hq => exact fun _ _ _ h => h); (case g115_hy => (refine Or.inl ⟨by rfl, ?_⟩; intro w hSw; (try dsimp only at hSw); go_simp; try with_reducible rfl)); try simp only [Act.put, List.setIfInBounds_toArray, List.set_cons_zero, List.set_cons_succ])); ((refine wpAnyH_take (i := 2) (oi := ?g116_o) (v := ?g116_v) ?g116_hi (by kernel_rfl) (by kernel_rfl) (by kernel_rfl) ?g116_hq ?g116_hy (by assumption) ?g116_gr; (case g116_hi => (simp only [List.getElem?_toArray, List.getElem?_cons_succ, List.getElem?_cons_zero]; rfl)); (case g116_hq => exact fun _ _ _ h => h); (case g116_hy => (refine Or.inl ⟨by rfl, ?_⟩; intro w hSw; (try dsimp only at hSw); go_simp; try with_reducible rfl)); try simp only [Act.put, List.setIfInBounds_toArray, List.set_cons_zero, List.set_cons_succ])); ((refine wpAnyH_take (i := 3) (oi := ?g117_o) (v := ?g117_v) ?g117_hi (by kernel_rfl) (by kernel_rfl) (by kernel_rfl) ?g117_hq ?g117_hy (by assumption) ?g117_gr; (case g117_hi => (simp only [List.getElem?_toArray, List.getElem?_cons_succ, List.getElem?_cons_zero]; rfl)); (case g117_hq => exact fun _ _ _ h => h); (case g117_hy => (refine Or.inl ⟨by rfl, ?_⟩; intro w hSw; (try dsimp only at hSw); go_simp; try with_reducible rfl)); try simp only [Act.put, List.setIfInBounds_toArray, List.set_cons_zero, List.set_cons_succ])); ((refine wpAnyH_take (i := 4) (oi := ?g118_o) (v := ?g118_v) ?g118_hi (by kernel_rfl) (by kernel_rfl) (by kernel_rfl) ?g118_hq ?g118_hy (by assumption) ?g118_gr; (case g118_hi => (simp only [List.getElem?_toArray, List.getElem?_cons_succ, List.getElem?_cons_zero]; rfl)); (case g118_hq => exact fun _ _ _ h => h); (case g118_hy => (refine Or.inl ⟨by rfl, ?_⟩; intro w hSw; (try dsimp only at hSw); go_simp; try with_reducible rfl)); try simp only [Act.put, List.setIfInBounds_toArray, List.set_cons_zero, List.set_cons_succ])); ((refine wpAnyH_take (i := 5) (oi := ?g119_o) (v := ?g119_v) ?g119_hi (by kernel_rfl) (by kernel_rfl) (by kernel_rfl) ?g119_hq ?g119_hy (by assumption) ?g119_gr; (case g119_hi => (simp only [List.getElem?_toArray, List.getElem?_cons_succ, List.getElem?_cons_zero]; rfl)); (case g119_hq => exact fun _ _ _ h => h); (case g119_hy => (refine Or.inl ⟨by rfl, ?_⟩; intro w hSw; (try dsimp only at hSw); go_simp; try with_reducible rfl)); try simp only [Act.put, List.setIfInBounds_toArray, List.set_cons_zero, List.set_cons_succ])); ((refine wpAnyH_take (i := 6) (oi := ?g120_o) (v := ?g120_v) ?g120_hi (by kernel_rfl) (by kernel_rfl) (by kernel_rfl) ?g120_hq ?g120_hy (by assumption) ?g120_gr; (case g120_hi => (simp only [List.getElem?_toArray, List.getElem?_cons_succ, List.getElem?_cons_zero]; rfl)); (case g120_hq => exact fun _ _ _ h => h); (case g120_hy => (refine Or.inl ⟨by rfl, ?_⟩; intro w hSw; (try dsimp only at hSw); go_simp; try with_reducible rfl)); try simp only [Act.put, List.setIfInBounds_toArray, List.set_cons_zero, List.set_cons_succ])); ((refine wpAnyH_take (i := 7) (oi := ?g121_o) (v := ?g121_v) ?g121_hi (by kernel_rfl) (by kernel_rfl) (by kernel_rfl) ?g121_hq ?g121_hy (by assumption) ?g121_gr; (case g121_hi => (simp only [List.getElem?_toArray, List.getElem?_cons_succ, List.getElem?_cons_zero]; rfl)); (case g121_hq => exact fun _ _ _ h => h); (case g121_hy => (refine Or.inl ⟨by rfl, ?_⟩; intro w hSw; (try dsimp only at hSw); go_simp; try with_reducible rfl)); try simp only [Act.put, List.setIfInBounds_toArray, List.set_cons_zero, List.set_cons_succ])); ((refine wpAnyH_take (i := 8) (oi := ?g122_o) (v := ?g122_v) ?g122_hi (by kernel_rfl) (by kernel_rfl) (by kernel_rfl) ?g122_hq ?g122_hy (by assumption) ?g122_gr; (case g122_hi => (simp only [List.getElem?_toArray, List.getElem?_cons_succ, List.getElem?_cons_zero]; rfl)); (case g122_hq => exact fun _ _ _ h => h); (case g122_hy => (refine Or.inl ⟨by rfl, ?_⟩; intro w hSw; (try dsimp only at hSw); go_simp; try with_reducible rfl)); try simp only [Act.put, List.setIfInBounds_toArray, List.set_cons_zero, List.set_cons_succ])))
      refine wpAnyH_done (by kernel_rfl) ?_ _
      go_wp2
      go_roundw
      case rel => exact ⟨k + 1, by omega, by go_num, HXr.out.drew⟩
      case measure => simp [intOf]; omega
    · go_wp2_with (go_at_call 34; refine (awake08_any _).mono ?_; rintro e w9 ⟨rfl, hb9⟩)
      go_ret
      exact ⟨rfl, (HX7.out.trans HXr.out).trans hb9⟩

theorem floodBacks_any {w : World} (W H : Int) (a : Option Addr) (l : List Int) (c : Nat) (bx byy bw bh fx fy tx ty : Int) (hr : Row16 w a l) (hu : U16s l) :
    Calls Try.prog 12 #[.agg #[.int .i64 W, .int .i64 H, .slice a l.length c], .agg #[.int .i64 bx, .int .i64 byy, .int .i64 bw, .int .i64 bh], .agg #[.int .i64 fx, .int .i64 fy, .int .i64 tx, .int .i64 ty]] w fun e w' => e = .returned (.bool true) ∧ Ext w w' := by
  by_cases hn : (l.length : Int) ≤ 150
  · by_cases h1 : lookE W H l.length bx byy bw bh fx fy = 0
    · by_cases h2 : lookE W H l.length bx byy bw bh tx ty = 0
      · exact fb_ok c bx byy bw bh fx fy tx ty hr hu hn h1 h2
      · exact fb_bad c bx byy bw bh fx fy tx ty hr hu hn (.inr h2)
    · exact fb_bad c bx byy bw bh fx fy tx ty hr hu hn (.inl h1)
  · exact fb_far W H a l.length c bx byy bw bh fx fy tx ty hn

end Go.Proofs.Ytkonojjillcfiaa

/- What the laws on floods share: how far a cell is, as the laws ask. -/
namespace Go.Proofs.Ytkonojjillcfiaa
open Go.RowKit

set_option maxRecDepth 100000 in
theorem at08_any {w : World} {W H : Int} {l : List Int} {bx byy bw bh : Int} (L : LandP W H l bx byy bw bh) (a : Option Addr) (c : Nat) {g cg base : Nat} {far : Nat → Int} (fa : FarAt w base g cg far l.length) (x y : Int) (hx : -1 ≤ x ∧ x ≤ 1000) (hy : -1 ≤ y ∧ y ≤ 1000) :
    Calls Try.prog 46 #[.agg #[.int .i64 W, .int .i64 H, .slice a l.length c], .agg #[.int .i64 bx, .int .i64 byy, .int .i64 bw, .int .i64 bh], .slice (some ⟨g, 0, none⟩) l.length cg, .agg #[.int .i64 x, .int .i64 y]] w fun e w' => e = .returned (.int .u64 (if hasB bx byy bw bh x y = true then far (idxN W (x, y)) else infI)) ∧ Ext w w' := by
  have wh := L.wh
  have ff := fitsR_true.1 L.fits
  have HH := hide (fun w' => rHas_any bx byy bw bh x y w' ff.1 ff.2.1 (by unfold InI; omega) (by unfold InI; omega))
  have m0 : -256 ≤ y * W ∧ y * W ≤ 256000 := by
    have h1 : y * W ≤ 1000 * W := Int.mul_le_mul_of_nonneg_right hy.2 (by omega)
    have h2 : -1 * W ≤ y * W := Int.mul_le_mul_of_nonneg_right hy.1 (by omega)
    omega
  have k1 : IntKind.i64.wrap (y * W) = y * W := IntWalk.i64_in _ (by omega)
  have k2 : IntKind.i64.wrap (y * W + x) = y * W + x := IntWalk.i64_in _ (by omega)
  obtain ⟨n, hn⟩ : ∃ n, l.length = n := ⟨_, rfl⟩
  cases hh : hasB bx byy bw bh x y
  · rw [hh] at HH
    rw [if_neg (by decide), hn]
    clear L fa hh hn ff
    go_enter Try.func46, Try.ntmps46
    go_wp2_with (go_at_call 41; refine (HH.out _).mono ?_; rintro e w1 ⟨rfl, hb1⟩; obtain ⟨hc1, hf1⟩ := hb1.cells; have hz1 := hb1.size; (repeat (first | rw [World.size_alloc] at hz1 | rw [World.size_drew] at hz1)); have z1_0 : w.heap.size < w1.heap.size := (by omega); have z1_1 : w.heap.size + 1 < w1.heap.size := (by omega); have z1_2 : w.heap.size + 2 < w1.heap.size := (by omega))
    go_ret
    exact ⟨rfl, (by (with_reducible (repeat' (first | exact Ext.refl _ | assumption | refine Ext.drew ?_ | refine Ext.drewN ?_ _ | refine Ext.alloc ?_ _ | refine Ext.setCell ?_ ?_ _ | refine Ext.trans ?_ (by assumption)))); all_goals (first | (simp; done) | (simp; omega)))⟩
  · rw [hh] at HH
    rw [if_pos rfl]
    have hin := L.in_ hh
    have hj := L.idx_lt hin
    have hji := idx_int (W := W) hin.1 (by omega) hin.2.2.1
    obtain ⟨j, hje⟩ : ∃ j, idxN W (x, y) = j := ⟨_, rfl⟩
    rw [hje] at hj hji ⊢
    have FC := (fa.cell hj).1
    have zg := fa.lt.2
    have k2' : IntKind.i64.wrap (y * W + x) = (j : Int) := k2.trans hji.symm
    obtain ⟨fj, hfj⟩ : ∃ z, far j = z := ⟨_, rfl⟩
    rw [hfj] at FC ⊢
    rw [hn] at hj ⊢
    have d0 : (j : Int) < (n : Int) := by omega
    have d1 : decide ((n : Int) ≤ (j : Int)) = false := by simp; omega
    have d3 : decide (n ≤ j) = false := by simp; omega
    clear L fa hh hn ff hfj hje hji k2 hin m0
    go_enter Try.func46, Try.ntmps46
    go_wp2_with (go_at_call 41; refine (HH.out _).mono ?_; rintro e w1 ⟨rfl, hb1⟩; obtain ⟨hc1, hf1⟩ := hb1.cells; have hz1 := hb1.size; (repeat (first | rw [World.size_alloc] at hz1 | rw [World.size_drew] at hz1)); have z1_0 : w.heap.size < w1.heap.size := (by omega); have z1_1 : w.heap.size + 1 < w1.heap.size := (by omega); have z1_2 : w.heap.size + 2 < w1.heap.size := (by omega); have hxx : Ext w w1 := (by (with_reducible (repeat' (first | exact Ext.refl _ | assumption | refine Ext.drew ?_ | refine Ext.drewN ?_ _ | refine Ext.alloc ?_ _ | refine Ext.setCell ?_ ?_ _ | refine Ext.trans ?_ (by assumption)))); all_goals (first | (simp; done) | (simp; omega))); have y9 := (hxx.cell (p := ⟨g, j, none⟩) zg).trans FC; have zg1 : g < w1.heap.size := Nat.lt_of_lt_of_le zg hxx.size)
    go_ret
    exact ⟨rfl, (by (with_reducible (repeat' (first | exact Ext.refl _ | assumption | refine Ext.drew ?_ | refine Ext.drewN ?_ _ | refine Ext.alloc ?_ _ | refine Ext.setCell ?_ ?_ _ | refine Ext.trans ?_ (by assumption)))); all_goals (first | (simp; done) | (simp; omega)))⟩
end Go.Proofs.Ytkonojjillcfiaa

/- The law FloodNear. -/
namespace Go.Proofs.Ytkonojjillcfiaa
open Go.RowKit

/-- How far the cell beside one is, as the law asks. -/
def nearF (far : Nat → Int) (W bx byy bw bh x y : Int) (k : Nat) : Int := if hasB bx byy bw bh (stepX x (k : Int)) (stepY y (k : Int)) = true then far (idxN W (stepX x (k : Int), stepY y (k : Int))) else infI
/-- The least of the first k. -/
def leastF (far : Nat → Int) (W bx byy bw bh x y c : Int) : Nat → Int
  | 0 => infI
  | k + 1 => if satS (nearF far W bx byy bw bh x y k) c < leastF far W bx byy bw bh x y c k then satS (nearF far W bx byy bw bh x y k) c else leastF far W bx byy bw bh x y c k

theorem step_dir {k : Nat} (hk : k < 4) (x y : Int) : stepX x (k : Int) = x + dirX k ∧ stepY y (k : Int) = y + dirY k := by
  obtain rfl | rfl | rfl | rfl : k = 0 ∨ k = 1 ∨ k = 2 ∨ k = 3 := by omega
  all_goals (constructor <;> simp [stepX, stepY, dirX, dirY] <;> omega)

theorem least_ge {far : Nat → Int} {W bx byy bw bh x y c m : Int} : ∀ {n : Nat}, (∀ k, k < n → m ≤ satS (nearF far W bx byy bw bh x y k) c) → m ≤ infI → m ≤ leastF far W bx byy bw bh x y c n
  | 0, _, h => h
  | n + 1, h, hi => by
    have h1 := least_ge (n := n) (fun k hk => h k (by omega)) hi
    have h2 := h n (by omega)
    unfold leastF
    split <;> omega
theorem least_le {far : Nat → Int} {W bx byy bw bh x y c : Int} : ∀ {n : Nat} {k : Nat}, k < n → leastF far W bx byy bw bh x y c n ≤ satS (nearF far W bx byy bw bh x y k) c
  | n + 1, k, hk => by
    unfold leastF
    by_cases e : k = n
    · subst e
      split <;> omega
    · have := least_le (far := far) (W := W) (bx := bx) (byy := byy) (bw := bw) (bh := bh) (x := x) (y := y) (c := c) (n := n) (k := k) (by omega)
      split <;> omega
theorem least_inf {far : Nat → Int} {W bx byy bw bh x y c : Int} : ∀ (n : Nat), leastF far W bx byy bw bh x y c n ≤ infI
  | 0 => Int.le_refl _
  | n + 1 => by
    have := least_inf (far := far) (W := W) (bx := bx) (byy := byy) (bw := bw) (bh := bh) (x := x) (y := y) (c := c) n
    unfold leastF
    split <;> omega

theorem near_nn {far : Nat → Int} (h : ∀ v, 0 ≤ far v ∧ far v ≤ infI) (W bx byy bw bh x y : Int) (k : Nat) : 0 ≤ nearF far W bx byy bw bh x y k ∧ nearF far W bx byy bw bh x y k ≤ infI := by
  unfold nearF
  split
  · exact h _
  · exact ⟨by decide, Int.le_refl _⟩
theorem satS_bd {a b : Int} (h1 : 0 ≤ a) (h2 : 0 ≤ b) : 0 ≤ satS a b ∧ satS a b ≤ 18446744073709551615 := by unfold satS; split <;> omega

theorem least_far {W H : Int} {l : List Int} {bx byy bw bh : Int} (L : LandP W H l bx byy bw bh) {s : Nat} {far : Nat → Int} (F : IsFar (mapNet L) s far) (lo : FarLow (mapNet L) far) {x y : Int} (ho : openB l W bx byy bw bh x y = true) (hs : idxN W (x, y) ≠ s) :
    leastF far W bx byy bw bh x y (costI l W (x, y)) 4 = far (idxN W (x, y)) := by
  have hin := L.in_ (open_has ho).1
  have hop : (mapNet L).op (idxN W (x, y)) = true := by show opV _ _ _ _ = true; rw [L.opV_idx hin]; exact ho
  have hadj : (mapNet L).adj (idxN W (x, y)) = (nbC (openB l W bx byy bw bh) x y 4).map (idxN W) := by
    show adjV _ _ _ = _
    unfold adjV
    rw [vx_idx hin.1 hin.2.1 hin.2.2.1, vy_idx hin.1 hin.2.1 hin.2.2.1]
  have hc : (mapNet L).cost (idxN W (x, y)) = costI l W (x, y) := rfl
  have c1 := (mapNet L).pos _ hop
  have c2 := (mapNet L).top _ hop
  rw [hc] at c1 c2
  have e1 : infI = 18446744073709551615 := rfl
  have hn : ((mapNet L).n : Int) ≤ 65536 := L.wh.2.2.2.2
  refine Int.le_antisymm ?_ (least_ge (fun k hk => ?_) (F.le _))
  · by_cases hf : far (idxN W (x, y)) < infI
    · obtain ⟨u, hu, _, he⟩ := F.from_ _ hop hs hf
      rw [hadj] at hu
      obtain ⟨p, hp, rfl⟩ := List.mem_map.1 hu
      obtain ⟨k, hk, hko, rfl⟩ := mem_nbC.1 hp
      have hsd := step_dir hk x y
      have h1 := least_le (far := far) (W := W) (bx := bx) (byy := byy) (bw := bw) (bh := bh) (x := x) (y := y) (c := costI l W (x, y)) hk
      have h2 : nearF far W bx byy bw bh x y k = far (idxN W (x + dirX k, y + dirY k)) := by
        unfold nearF
        rw [hsd.1, hsd.2, if_pos (open_has hko).1]
      rw [h2] at h1
      have h3 : satS (far (idxN W (x + dirX k, y + dirY k))) (costI l W (x, y)) = far (idxN W (x, y)) := by
        unfold satS
        rw [← hc, he, if_pos (by have := F.le (idxN W (x, y)); omega)]
      omega
    · have := least_inf (far := far) (W := W) (bx := bx) (byy := byy) (bw := bw) (bh := bh) (x := x) (y := y) (c := costI l W (x, y)) 4
      omega
  · have hsd := step_dir hk x y
    have hle := F.le (idxN W (x, y))
    unfold nearF
    rw [hsd.1, hsd.2]
    split
    · next hb =>
      by_cases hu : far (idxN W (x + dirX k, y + dirY k)) < infI
      · have hio := L.in_ hb
        have huo := F.open_ hu
        have huo' : openB l W bx byy bw bh (x + dirX k) (y + dirY k) = true := by
          have : opV (openB l W bx byy bw bh) W l.length (idxN W (x + dirX k, y + dirY k)) = true := huo
          rw [L.opV_idx hio] at this
          exact this
        have hl := lo _ hu
        have hm : idxN W (x + dirX k, y + dirY k) ∈ (mapNet L).adj (idxN W (x, y)) := by
          rw [hadj]
          exact List.mem_map.2 ⟨_, mem_nbC.2 ⟨k, hk, huo', rfl⟩, rfl⟩
        have := F.near _ hop hs _ hm huo (by rw [hc]; omega)
        rw [hc] at this
        unfold satS
        rw [if_pos (by omega)]
        exact this
      · have := F.le (idxN W (x + dirX k, y + dirY k))
        unfold satS
        split <;> omega
    · unfold satS
      split <;> omega

/-- What the law wants of a cell. -/
def wantF (far : Nat → Int) (l : List Int) (W bx byy bw bh fx fy x y : Int) : Int :=
  if x = fx ∧ y = fy ∧ 0 < costI l W (x, y) then 0 else if 0 < costI l W (x, y) ∧ hasB bx byy bw bh x y = true then leastF far W bx byy bw bh x y (costI l W (x, y)) 4 else infI
theorem want_far {W H : Int} {l : List Int} {bx byy bw bh fx fy : Int} (L : LandP W H l bx byy bw bh) {far : Nat → Int} (hb : hasB bx byy bw bh fx fy = true) (F : IsFar (mapNet L) (idxN W (fx, fy)) far) (lo : FarLow (mapNet L) far) {x y : Int} (h : 0 ≤ x ∧ x < W ∧ 0 ≤ y ∧ y < H) :
    far (idxN W (x, y)) = wantF far l W bx byy bw bh fx fy x y := by
  have hfi := L.in_ hb
  unfold wantF
  by_cases h1 : x = fx ∧ y = fy ∧ 0 < costI l W (x, y)
  · rw [if_pos h1]
    obtain ⟨rfl, rfl, hc⟩ := h1
    refine F.start ?_
    show opV _ _ _ _ = true
    rw [L.opV_idx h]
    unfold openB
    rw [hb, decide_eq_true hc]
    rfl
  · rw [if_neg h1]
    by_cases h2 : 0 < costI l W (x, y) ∧ hasB bx byy bw bh x y = true
    · rw [if_pos h2]
      refine (least_far L F lo (by unfold openB; rw [h2.2, decide_eq_true h2.1]; rfl) (fun e => h1 ⟨?_, ?_, h2.1⟩)).symm
      · have a := vx_idx (W := W) h.1 h.2.1 h.2.2.1
        have b := vx_idx (W := W) hfi.1 hfi.2.1 hfi.2.2.1
        rw [← a, ← b, e]
      · have a := vy_idx (W := W) h.1 h.2.1 h.2.2.1
        have b := vy_idx (W := W) hfi.1 hfi.2.1 hfi.2.2.1
        rw [← a, ← b, e]
    · rw [if_neg h2]
      refine F.shut _ ?_
      show opV _ _ _ _ = false
      rw [L.opV_idx h]
      unfold openB
      cases hb2 : hasB bx byy bw bh x y
      · rfl
      · simp only [Bool.true_and]
        exact decide_eq_false (fun hc => h2 ⟨hc, hb2⟩)
end Go.Proofs.Ytkonojjillcfiaa
