/- The walk of gate's runs. -/
import Derived.Test.YtkioohhjjdlhiaaGateA
import Derived.Test.YtkioohhjjdlhiaaGateP
import Derived.Test.YtkioohhjjdlhiaaPartB
import Derived.Test.YtkioohhjjdlhiaaScopeM
set_option linter.all false
set_option linter.unusedVariables false
set_option linter.unusedSimpArgs false
namespace Go.Proofs.Ytkioohhjjdlhiaa
open Go.RowKit

theorem T_gates : ElemT Try.prog 31 65 (.agg #[.int .i64 0, .int .i64 0, .int .i64 0, .int .i64 0]) 4 32 := ⟨Try.underlying31, by kernel_rfl, rfl, by decide⟩

/-- The frame of runs at its labels. -/
def AtLabel (V F o fr : Value) (i : Nat) (a : Act) : Prop := ∃ (u8 u9 u10 u11 u12 u13 u14 u15 u16 u17 u18 u19 u20 u21 u22 u23 u24 u25 u26 u27 u28 u29 u30 u31 u32 u33 u34 u35 u36 u37 u38 u39 u40 u41 u42 u43 u44 u45 u46 u47 u48 u49 u50 u51 u52 u53 u54 u55 : Value), a = { tmps := #[V, F, undef, undef, .slice none 0 0, o, .int .i64 (i : Int), fr, u8, u9, u10, u11, u12, u13, u14, u15, u16, u17, u18, u19, u20, u21, u22, u23, u24, u25, u26, u27, u28, u29, u30, u31, u32, u33, u34, u35, u36, u37, u38, u39, u40, u41, u42, u43, u44, u45, u46, u47, u48, u49, u50, u51, u52, u53, u54, u55], defers := [] }

def pick (B : List (Cell × Cell)) (l : List Nat) : List (Cell × Cell) := l.filterMap fun k => B[k]?
theorem pick_snoc (B : List (Cell × Cell)) (l : List Nat) (k : Nat) (p : Cell × Cell) (h : B[k]? = some p) : pick B (l ++ [k]) = pick B l ++ [p] := by simp [pick, h]

/-- At 'shut': the gates of the runs behind i are still to come. -/
def ShutI (op : Nat → Bool) (B : List (Cell × Cell)) (V F : Value) (base : Nat) (w0 : World) (a : Act) (w : World) : Prop :=
  ∃ (i : Nat) (o fr : Value) (D : List Nat), AtLabel V F o fr i a ∧ i ≤ B.length ∧ D ++ gatesI op B.length i = gatesI op B.length 0 ∧ (pick B D).length ≤ i ∧ Own pairE w base 65 o (pick B D) ∧ Below base w0 w
/-- At 'run': all from fr to i are open. -/
def RunI (op : Nat → Bool) (B : List (Cell × Cell)) (V F : Value) (base : Nat) (w0 : World) (a : Act) (w : World) : Prop :=
  ∃ (i fr : Nat) (o : Value) (D : List Nat), AtLabel V F o (.int .i64 (fr : Int)) i a ∧ fr ≤ i ∧ i < B.length ∧ (∀ j, fr ≤ j → j ≤ i → op j = true) ∧ D ++ gatesI op B.length fr = gatesI op B.length 0 ∧ (pick B D).length ≤ fr ∧ Own pairE w base 65 o (pick B D) ∧ Below base w0 w
def RunsJ (op : Nat → Bool) (B : List (Cell × Cell)) (V F : Value) (base : Nat) (w0 : World) (l : Nat) (a : Act) (w : World) : Prop :=
  (l = 0 ∧ ShutI op B V F base w0 a w) ∨ (l = 1 ∧ RunI op B V F base w0 a w)

theorem below_app {w0 wr x w9 : World} {q : Nat} (h : Below q w0 wr) (e : Ext wr x) (hq : q ≤ wr.heap.size) (k : Below q x w9) : Below q w0 w9 := (h.trans (Below.mono e hq)).trans k

def RetGates (w : World) (L : List (Cell × Cell)) (e : Ending) (w' : World) : Prop := ∃ v, e = .returned v ∧ Ext w w' ∧ Own pairE w' w.heap.size 65 v L

set_option maxRecDepth 100000 in
set_option maxHeartbeats 4000000 in
theorem gtRuns_any (g c : Nat) (B : List (Cell × Cell)) (r : Value) (op : Nat → Bool) (w : World) (hB : B.length ≤ 1000) (hb : g < w.heap.size) (hP : PairsAt w g 0 B)
    (hop : ∀ w', Ext w w' → ∀ k p, B[k]? = some p → Calls Try.prog 33 #[.agg #[.int .i64 p.1.1, .int .i64 p.1.2, .int .i64 p.2.1, .int .i64 p.2.2], r] w' fun e w2 => e = .returned (.bool (op k)) ∧ Ext w' w2) :
    Calls Try.prog 32 #[.slice (some ⟨g, 0, none⟩) B.length c, .func (.func 33) #[] #[r]] w (RetGates w (pick B (gatesI op B.length 0))) := by
  have HP := hide hP
  have HOP := hide hop
  clear hP hop
  have hdiv : ∀ x : Int, 0 ≤ x → x.tdiv 2 = x / 2 := fun x hx => Int.tdiv_eq_ediv_of_nonneg hx
  have HDIV := hide hdiv
  clear hdiv
  go_enter Try.func32, Try.ntmps32
  go_wp2
  refine wp_scope_from2 (RunsJ op B (.slice (some ⟨g, 0, none⟩) B.length c) (.func (.func 33) #[] #[r]) w.heap.size w) (fun _ a _ => B.length - (intOf (a.tmps.getD 6 undef)).toNat) ?_ ?_ ?_
  · rfl
  · go_wp2
    exact .inl ⟨rfl, 0, _, _, [], ⟨_, _, _, _, _, _, _, _, _, _, _, _, _, _, _, _, _, _, _, _, _, _, _, _, _, _, _, _, _, _, _, _, _, _, _, _, _, _, _, _, _, _, _, _, _, _, _, _, rfl⟩, Nat.zero_le _, rfl, Nat.le_refl _, Own.nil _ _ _ _, Below.refl _ _⟩
  · rintro l a wr (⟨rfl, i, o, fr, D, ⟨u8, u9, u10, u11, u12, u13, u14, u15, u16, u17, u18, u19, u20, u21, u22, u23, u24, u25, u26, u27, u28, u29, u30, u31, u32, u33, u34, u35, u36, u37, u38, u39, u40, u41, u42, u43, u44, u45, u46, u47, u48, u49, u50, u51, u52, u53, u54, u55, rfl⟩, hi, hD, hlen, hown, hbel⟩ | ⟨rfl, i, fr, o, D, ⟨u8, u9, u10, u11, u12, u13, u14, u15, u16, u17, u18, u19, u20, u21, u22, u23, u24, u25, u26, u27, u28, u29, u30, u31, u32, u33, u34, u35, u36, u37, u38, u39, u40, u41, u42, u43, u44, u45, u46, u47, u48, u49, u50, u51, u52, u53, u54, u55, rfl⟩, hfi, hi, hF, hD, hlen, hown, hbel⟩)
    · refine ⟨_, rfl, ?_⟩
      dsimp only
      have HO := hide hown
      have HD := hide hD
      have hxr : Ext w wr := hbel
      have hbel0 : Below w.heap.size w wr := hbel
      have hz := hxr.size
      have zr : g < wr.heap.size := by omega
      clear hown hD hbel
      by_cases hlt : i < B.length
      · have hne : ((i : Int) == (B.length : Int)) = false := by rw [beq_eq_false_iff_ne]; omega
        obtain ⟨x, hx⟩ : ∃ x, B[i]? = some x := ⟨_, List.getElem?_eq_getElem hlt⟩
        have ex : B[i] = x := by rw [List.getElem?_eq_getElem hlt] at hx; exact Option.some.inj hx
        obtain ⟨x1, x2, x3, x4⟩ := (HP.out.ext hb hxr) (i) hlt
        rw [ex] at x1 x2 x3 x4
        simp only [Nat.zero_add] at x1 x2 x3 x4
        have Hx := hide hx
        clear hx ex
        cases ho : op i
        · go_wp2_with (go_at_call 33; refine (HOP.out _ hxr i x Hx.out).mono ?_; rintro x9 w3 ⟨rfl, hb3⟩; rw [ho]; obtain ⟨hc3, hf3⟩ := hb3.cells; have hz3 := hb3.size; (repeat (first | rw [World.size_alloc] at hz3 | rw [World.size_drew] at hz3)); have z3_0 : g < w3.heap.size := (by omega))
          go_step3
          refine And.intro (Or.inl ⟨rfl, i + 1, _, _, D, ⟨_, _, _, _, _, _, _, _, _, _, _, _, _, _, _, _, _, _, _, _, _, _, _, _, _, _, _, _, _, _, _, _, _, _, _, _, _, _, _, _, _, _, _, _, _, _, _, _, rfl⟩, by omega, ?_, by omega, HO.out.ext (by (with_reducible (repeat' (first | exact Ext.refl _ | assumption | refine Ext.drew ?_ | refine Ext.drewN ?_ _ | refine Ext.alloc ?_ _ | refine Ext.setCell ?_ ?_ _ | refine Ext.trans ?_ (by assumption)))); all_goals (first | (simp; done) | (simp; omega))), ?_⟩) ?_
          · rw [← gates_shut hlt ho]; exact HD.out
          · exact Ext.trans hxr (by (with_reducible (repeat' (first | exact Ext.refl _ | assumption | refine Ext.drew ?_ | refine Ext.drewN ?_ _ | refine Ext.alloc ?_ _ | refine Ext.setCell ?_ ?_ _ | refine Ext.trans ?_ (by assumption)))); all_goals (first | (simp; done) | (simp; omega)))
          · simp [intOf]; omega
        · have HF := hide (show ∀ j, i ≤ j → j ≤ i → op j = true from fun j j1 j2 => by have e : j = i := (by omega); rw [e]; exact ho)
          have HO1 := hide ho
          clear ho
          go_wp2_with (go_at_call 33; refine (HOP.out _ hxr i x Hx.out).mono ?_; rintro x9 w3 ⟨rfl, hb3⟩; rw [HO1.out]; obtain ⟨hc3, hf3⟩ := hb3.cells; have hz3 := hb3.size; (repeat (first | rw [World.size_alloc] at hz3 | rw [World.size_drew] at hz3)); have z3_0 : g < w3.heap.size := (by omega))
          go_step3
          have hx3 : Ext wr w3 := (by (with_reducible (repeat' (first | exact Ext.refl _ | assumption | refine Ext.drew ?_ | refine Ext.drewN ?_ _ | refine Ext.alloc ?_ _ | refine Ext.setCell ?_ ?_ _ | refine Ext.trans ?_ (by assumption)))); all_goals (first | (simp; done) | (simp; omega)))
          have HO3 := hide (HO.out.ext hx3)
          have hbel3 : Below w.heap.size w w3 := Ext.trans hxr hx3
          have hz3 := hx3.size
          have zr3 : g < w3.heap.size := by omega
          clear x1 x2 x3 x4 hx3 hc3 hf3 hz3 z3_0 hb3 HO
          obtain ⟨wq, hwq⟩ : ∃ wq, wq = w3 := ⟨_, rfl⟩
          rw [← hwq] at HO3 hbel3 zr3 ⊢
          have hzq : w.heap.size ≤ wq.heap.size := hbel3.size
          clear hwq hbel0 zr hz
          by_cases h2 : i + 1 < B.length
          · have h2i : (i : Int) + 1 < (B.length : Int) := by omega
            obtain ⟨y, hy⟩ : ∃ y, B[i + 1]? = some y := ⟨_, List.getElem?_eq_getElem h2⟩
            have ey : B[i + 1] = y := by rw [List.getElem?_eq_getElem h2] at hy; exact Option.some.inj hy
            obtain ⟨y1, y2, y3, y4⟩ := (HP.out.ext hb (hbel3 : Ext w wq)) (i + 1) h2
            rw [ey] at y1 y2 y3 y4
            simp only [Nat.zero_add] at y1 y2 y3 y4
            have Hy := hide hy
            clear hy ey
            cases ho2 : op (i + 1)
            · have HG := hide (gates_run (o := op) (n := B.length) (i := i) (e := (i + 1)) (by omega) (by omega) (fun j j1 j2 => HF.out j j1 (by omega)) (.inr ho2))
              obtain ⟨m, hm⟩ : ∃ m : Nat, m = i + ((i + 1) - i - 1) / 2 := ⟨_, rfl⟩
              rw [← hm] at HG
              have hml : m < B.length := by omega
              obtain ⟨z, hz⟩ : ∃ z, B[m]? = some z := ⟨_, List.getElem?_eq_getElem hml⟩
              have ez : B[m] = z := by rw [List.getElem?_eq_getElem hml] at hz; exact Option.some.inj hz
              obtain ⟨z1, z2, z3, z4⟩ := (HP.out.ext hb (hbel3 : Ext w wq)) (m) hml
              rw [ez] at z1 z2 z3 z4
              simp only [Nat.zero_add] at z1 z2 z3 z4
              have Hz := hide hz
              clear hz ez
              have k2 : ((i : Int) + 1 - (i : Int) - 1).tdiv 2 = (m : Int) - (i : Int) := by rw [HDIV.out _ (by omega)]; omega
              have k2' : ((i : Int) - (i : Int)).tdiv 2 = (m : Int) - (i : Int) := by rw [HDIV.out _ (by omega)]; omega
              have k3 : IntKind.i64.wrap ((m : Int) - (i : Int)) = (m : Int) - (i : Int) := IntWalk.i64_in _ (by omega)
              have k4 : (i : Int) + ((m : Int) - (i : Int)) = (m : Int) := by omega
              have k5 : i ≤ m := by omega
              have k6 : m ≤ i := by omega
              have HM := hide hm
              clear hm
              go_wp2_with (first
                | (go_at_call 33; refine (HOP.out _ (hbel3 : Ext w wq) (i + 1) y Hy.out).mono ?_; rintro x9 w4 ⟨rfl, hb4⟩; rw [ho2]; obtain ⟨hc4, hf4⟩ := hb4.cells; have hz4 := hb4.size; (repeat (first | rw [World.size_alloc] at hz4 | rw [World.size_drew] at hz4)); have z4_0 : g < w4.heap.size := (by omega))
                | (at_builtin; refine wpList_app pairE T_gates rfl _ _ rfl w.heap.size _ _ (pick B D) rfl ((HO3.out.ext (by (with_reducible (repeat' (first | exact Ext.refl _ | assumption | refine Ext.drew ?_ | refine Ext.drewN ?_ _ | refine Ext.alloc ?_ _ | refine Ext.setCell ?_ ?_ _ | refine Ext.trans ?_ (by assumption)))); all_goals (first | (simp; done) | (simp; omega)))).alloc _) z _ _ rfl _ (by simp) rfl (by omega) (by omega) (by simp; omega) ?_; intro g9 c9 w9 hown9 hb9; have HO9 := hide hown9; clear hown9))
              go_step3
              refine And.intro (Or.inl ⟨rfl, i + 1, _, _, D ++ [m], ⟨_, _, _, _, _, _, _, _, _, _, _, _, _, _, _, _, _, _, _, _, _, _, _, _, _, _, _, _, _, _, _, _, _, _, _, _, _, _, _, _, _, _, _, _, _, _, _, _, rfl⟩, by omega, ?_, ?_, ?_, below_app hbel3 (by (with_reducible (repeat' (first | exact Ext.refl _ | assumption | refine Ext.drew ?_ | refine Ext.drewN ?_ _ | refine Ext.alloc ?_ _ | refine Ext.setCell ?_ ?_ _ | refine Ext.trans ?_ (by assumption)))); all_goals (first | (simp; done) | (simp; omega))) (by omega) hb9⟩) ?_
              · rw [List.append_assoc]; have g1 := HG.out; have g2 := HD.out; rw [g1] at g2; exact g2
              · rw [pick_snoc B D m z Hz.out, List.length_append]; simp; omega
              · rw [pick_snoc B D m z Hz.out]; exact HO9.out
              · simp [intOf]; omega
            · go_wp2_with (go_at_call 33; refine (HOP.out _ (hbel3 : Ext w wq) (i + 1) y Hy.out).mono ?_; rintro x9 w4 ⟨rfl, hb4⟩; rw [ho2]; obtain ⟨hc4, hf4⟩ := hb4.cells; have hz4 := hb4.size; (repeat (first | rw [World.size_alloc] at hz4 | rw [World.size_drew] at hz4)); have z4_0 : g < w4.heap.size := (by omega))
              go_step3
              refine And.intro (Or.inr ⟨rfl, i + 1, i, _, D, ⟨_, _, _, _, _, _, _, _, _, _, _, _, _, _, _, _, _, _, _, _, _, _, _, _, _, _, _, _, _, _, _, _, _, _, _, _, _, _, _, _, _, _, _, _, _, _, _, _, rfl⟩, by omega, by omega, fun j j1 j2 => ?_, HD.out, by omega, HO3.out.ext (by (with_reducible (repeat' (first | exact Ext.refl _ | assumption | refine Ext.drew ?_ | refine Ext.drewN ?_ _ | refine Ext.alloc ?_ _ | refine Ext.setCell ?_ ?_ _ | refine Ext.trans ?_ (by assumption)))); all_goals (first | (simp; done) | (simp; omega))), ?_⟩) ?_
              · by_cases ej : j = i + 1
                · subst ej; exact ho2
                · exact HF.out j j1 (by omega)
              · exact Ext.trans (hbel3 : Ext w wq) (by (with_reducible (repeat' (first | exact Ext.refl _ | assumption | refine Ext.drew ?_ | refine Ext.drewN ?_ _ | refine Ext.alloc ?_ _ | refine Ext.setCell ?_ ?_ _ | refine Ext.trans ?_ (by assumption)))); all_goals (first | (simp; done) | (simp; omega)))
              · simp [intOf]; omega
          · have HG := hide (gates_run (o := op) (n := B.length) (i := i) (e := (i + 1)) (by omega) (by omega) (fun j j1 j2 => HF.out j j1 (by omega)) (.inl (by omega)))
            obtain ⟨m, hm⟩ : ∃ m : Nat, m = i + ((i + 1) - i - 1) / 2 := ⟨_, rfl⟩
            rw [← hm] at HG
            have hml : m < B.length := by omega
            obtain ⟨z, hz⟩ : ∃ z, B[m]? = some z := ⟨_, List.getElem?_eq_getElem hml⟩
            have ez : B[m] = z := by rw [List.getElem?_eq_getElem hml] at hz; exact Option.some.inj hz
            obtain ⟨z1, z2, z3, z4⟩ := (HP.out.ext hb (hbel3 : Ext w wq)) (m) hml
            rw [ez] at z1 z2 z3 z4
            simp only [Nat.zero_add] at z1 z2 z3 z4
            have Hz := hide hz
            clear hz ez
            have k2 : ((i : Int) + 1 - (i : Int) - 1).tdiv 2 = (m : Int) - (i : Int) := by rw [HDIV.out _ (by omega)]; omega
            have k2' : ((i : Int) - (i : Int)).tdiv 2 = (m : Int) - (i : Int) := by rw [HDIV.out _ (by omega)]; omega
            have k3 : IntKind.i64.wrap ((m : Int) - (i : Int)) = (m : Int) - (i : Int) := IntWalk.i64_in _ (by omega)
            have k4 : (i : Int) + ((m : Int) - (i : Int)) = (m : Int) := by omega
            have k5 : i ≤ m := by omega
            have k6 : m ≤ i := by omega
            have HM := hide hm
            clear hm
            go_wp2_with (first
              | (at_builtin; refine wpList_app pairE T_gates rfl _ _ rfl w.heap.size _ _ (pick B D) rfl (HO3.out.alloc _) z _ _ rfl _ (by simp) rfl (by omega) (by omega) (by simp; omega) ?_; intro g9 c9 w9 hown9 hb9; have HO9 := hide hown9; clear hown9))
            go_step3
            refine And.intro (Or.inl ⟨rfl, i + 1, _, _, D ++ [m], ⟨_, _, _, _, _, _, _, _, _, _, _, _, _, _, _, _, _, _, _, _, _, _, _, _, _, _, _, _, _, _, _, _, _, _, _, _, _, _, _, _, _, _, _, _, _, _, _, _, rfl⟩, by omega, ?_, ?_, ?_, below_app hbel3 (by (with_reducible (repeat' (first | exact Ext.refl _ | assumption | refine Ext.drew ?_ | refine Ext.drewN ?_ _ | refine Ext.alloc ?_ _ | refine Ext.setCell ?_ ?_ _ | refine Ext.trans ?_ (by assumption)))); all_goals (first | (simp; done) | (simp; omega))) (by omega) hb9⟩) ?_
            · rw [List.append_assoc]; have g1 := HG.out; have g2 := HD.out; rw [g1] at g2; exact g2
            · rw [pick_snoc B D m z Hz.out, List.length_append]; simp; omega
            · rw [pick_snoc B D m z Hz.out]; exact HO9.out
            · simp [intOf]; omega
      · obtain rfl : i = B.length := by omega
        have heq : ((B.length : Int) == (B.length : Int)) = true := by simp
        go_wp2
        simp only [jumps]
        go_ret
        have hd := HD.out
        rw [gates_end, List.append_nil] at hd
        exact ⟨_, rfl, hxr, by rw [← hd]; exact HO.out⟩
    · refine ⟨_, rfl, ?_⟩
      dsimp only
      have HO := hide hown
      have HD := hide hD
      have HF := hide hF
      have hxr : Ext w wr := hbel
      have hbel0 : Below w.heap.size w wr := hbel
      have hz := hxr.size
      have zr : g < wr.heap.size := by omega
      clear hown hD hbel hF
      by_cases h2 : i + 1 < B.length
      · have h2i : (i : Int) + 1 < (B.length : Int) := by omega
        obtain ⟨y, hy⟩ : ∃ y, B[i + 1]? = some y := ⟨_, List.getElem?_eq_getElem h2⟩
        have ey : B[i + 1] = y := by rw [List.getElem?_eq_getElem h2] at hy; exact Option.some.inj hy
        obtain ⟨y1, y2, y3, y4⟩ := (HP.out.ext hb hxr) (i + 1) h2
        rw [ey] at y1 y2 y3 y4
        simp only [Nat.zero_add] at y1 y2 y3 y4
        have Hy := hide hy
        clear hy ey
        cases ho2 : op (i + 1)
        · have HG := hide (gates_run (o := op) (n := B.length) (i := fr) (e := (i + 1)) (by omega) (by omega) (fun j j1 j2 => HF.out j j1 (by omega)) (.inr ho2))
          obtain ⟨m, hm⟩ : ∃ m : Nat, m = fr + ((i + 1) - fr - 1) / 2 := ⟨_, rfl⟩
          rw [← hm] at HG
          have hml : m < B.length := by omega
          obtain ⟨z, hz⟩ : ∃ z, B[m]? = some z := ⟨_, List.getElem?_eq_getElem hml⟩
          have ez : B[m] = z := by rw [List.getElem?_eq_getElem hml] at hz; exact Option.some.inj hz
          obtain ⟨z1, z2, z3, z4⟩ := (HP.out.ext hb hxr) (m) hml
          rw [ez] at z1 z2 z3 z4
          simp only [Nat.zero_add] at z1 z2 z3 z4
          have Hz := hide hz
          clear hz ez
          have k2 : ((i : Int) + 1 - (fr : Int) - 1).tdiv 2 = (m : Int) - (fr : Int) := by rw [HDIV.out _ (by omega)]; omega
          have k2' : ((i : Int) - (fr : Int)).tdiv 2 = (m : Int) - (fr : Int) := by rw [HDIV.out _ (by omega)]; omega
          have k3 : IntKind.i64.wrap ((m : Int) - (fr : Int)) = (m : Int) - (fr : Int) := IntWalk.i64_in _ (by omega)
          have k4 : (fr : Int) + ((m : Int) - (fr : Int)) = (m : Int) := by omega
          have k5 : fr ≤ m := by omega
          have k6 : m ≤ i := by omega
          have HM := hide hm
          clear hm
          go_wp2_with (first
            | (go_at_call 33; refine (HOP.out _ hxr (i + 1) y Hy.out).mono ?_; rintro x9 w4 ⟨rfl, hb4⟩; rw [ho2]; obtain ⟨hc4, hf4⟩ := hb4.cells; have hz4 := hb4.size; (repeat (first | rw [World.size_alloc] at hz4 | rw [World.size_drew] at hz4)); have z4_0 : g < w4.heap.size := (by omega))
            | (at_builtin; refine wpList_app pairE T_gates rfl _ _ rfl w.heap.size _ _ (pick B D) rfl ((HO.out.ext (by (with_reducible (repeat' (first | exact Ext.refl _ | assumption | refine Ext.drew ?_ | refine Ext.drewN ?_ _ | refine Ext.alloc ?_ _ | refine Ext.setCell ?_ ?_ _ | refine Ext.trans ?_ (by assumption)))); all_goals (first | (simp; done) | (simp; omega)))).alloc _) z _ _ rfl _ (by simp) rfl (by omega) (by omega) (by simp; omega) ?_; intro g9 c9 w9 hown9 hb9; have HO9 := hide hown9; clear hown9))
          go_step3
          refine And.intro (Or.inl ⟨rfl, i + 1, _, _, D ++ [m], ⟨_, _, _, _, _, _, _, _, _, _, _, _, _, _, _, _, _, _, _, _, _, _, _, _, _, _, _, _, _, _, _, _, _, _, _, _, _, _, _, _, _, _, _, _, _, _, _, _, rfl⟩, by omega, ?_, ?_, ?_, below_app hbel0 (by (with_reducible (repeat' (first | exact Ext.refl _ | assumption | refine Ext.drew ?_ | refine Ext.drewN ?_ _ | refine Ext.alloc ?_ _ | refine Ext.setCell ?_ ?_ _ | refine Ext.trans ?_ (by assumption)))); all_goals (first | (simp; done) | (simp; omega))) (by omega) hb9⟩) ?_
          · rw [List.append_assoc]; have g1 := HG.out; have g2 := HD.out; rw [g1] at g2; exact g2
          · rw [pick_snoc B D m z Hz.out, List.length_append]; simp; omega
          · rw [pick_snoc B D m z Hz.out]; exact HO9.out
          · simp [intOf]; omega
        · go_wp2_with (go_at_call 33; refine (HOP.out _ hxr (i + 1) y Hy.out).mono ?_; rintro x9 w4 ⟨rfl, hb4⟩; rw [ho2]; obtain ⟨hc4, hf4⟩ := hb4.cells; have hz4 := hb4.size; (repeat (first | rw [World.size_alloc] at hz4 | rw [World.size_drew] at hz4)); have z4_0 : g < w4.heap.size := (by omega))
          go_step3
          refine And.intro (Or.inr ⟨rfl, i + 1, fr, _, D, ⟨_, _, _, _, _, _, _, _, _, _, _, _, _, _, _, _, _, _, _, _, _, _, _, _, _, _, _, _, _, _, _, _, _, _, _, _, _, _, _, _, _, _, _, _, _, _, _, _, rfl⟩, by omega, by omega, fun j j1 j2 => ?_, HD.out, by omega, HO.out.ext (by (with_reducible (repeat' (first | exact Ext.refl _ | assumption | refine Ext.drew ?_ | refine Ext.drewN ?_ _ | refine Ext.alloc ?_ _ | refine Ext.setCell ?_ ?_ _ | refine Ext.trans ?_ (by assumption)))); all_goals (first | (simp; done) | (simp; omega))), ?_⟩) ?_
          · by_cases ej : j = i + 1
            · subst ej; exact ho2
            · exact HF.out j j1 (by omega)
          · exact Ext.trans hxr (by (with_reducible (repeat' (first | exact Ext.refl _ | assumption | refine Ext.drew ?_ | refine Ext.drewN ?_ _ | refine Ext.alloc ?_ _ | refine Ext.setCell ?_ ?_ _ | refine Ext.trans ?_ (by assumption)))); all_goals (first | (simp; done) | (simp; omega)))
          · simp [intOf]; omega
      · have HG := hide (gates_run (o := op) (n := B.length) (i := fr) (e := (i + 1)) (by omega) (by omega) (fun j j1 j2 => HF.out j j1 (by omega)) (.inl (by omega)))
        obtain ⟨m, hm⟩ : ∃ m : Nat, m = fr + ((i + 1) - fr - 1) / 2 := ⟨_, rfl⟩
        rw [← hm] at HG
        have hml : m < B.length := by omega
        obtain ⟨z, hz⟩ : ∃ z, B[m]? = some z := ⟨_, List.getElem?_eq_getElem hml⟩
        have ez : B[m] = z := by rw [List.getElem?_eq_getElem hml] at hz; exact Option.some.inj hz
        obtain ⟨z1, z2, z3, z4⟩ := (HP.out.ext hb hxr) (m) hml
        rw [ez] at z1 z2 z3 z4
        simp only [Nat.zero_add] at z1 z2 z3 z4
        have Hz := hide hz
        clear hz ez
        have k2 : ((i : Int) + 1 - (fr : Int) - 1).tdiv 2 = (m : Int) - (fr : Int) := by rw [HDIV.out _ (by omega)]; omega
        have k2' : ((i : Int) - (fr : Int)).tdiv 2 = (m : Int) - (fr : Int) := by rw [HDIV.out _ (by omega)]; omega
        have k3 : IntKind.i64.wrap ((m : Int) - (fr : Int)) = (m : Int) - (fr : Int) := IntWalk.i64_in _ (by omega)
        have k4 : (fr : Int) + ((m : Int) - (fr : Int)) = (m : Int) := by omega
        have k5 : fr ≤ m := by omega
        have k6 : m ≤ i := by omega
        have HM := hide hm
        clear hm
        go_wp2_with (first
          | (at_builtin; refine wpList_app pairE T_gates rfl _ _ rfl w.heap.size _ _ (pick B D) rfl (HO.out.alloc _) z _ _ rfl _ (by simp) rfl (by omega) (by omega) (by simp; omega) ?_; intro g9 c9 w9 hown9 hb9; have HO9 := hide hown9; clear hown9))
        go_step3
        refine And.intro (Or.inl ⟨rfl, i + 1, _, _, D ++ [m], ⟨_, _, _, _, _, _, _, _, _, _, _, _, _, _, _, _, _, _, _, _, _, _, _, _, _, _, _, _, _, _, _, _, _, _, _, _, _, _, _, _, _, _, _, _, _, _, _, _, rfl⟩, by omega, ?_, ?_, ?_, below_app hbel0 (by (with_reducible (repeat' (first | exact Ext.refl _ | assumption | refine Ext.drew ?_ | refine Ext.drewN ?_ _ | refine Ext.alloc ?_ _ | refine Ext.setCell ?_ ?_ _ | refine Ext.trans ?_ (by assumption)))); all_goals (first | (simp; done) | (simp; omega))) (by omega) hb9⟩) ?_
        · rw [List.append_assoc]; have g1 := HG.out; have g2 := HD.out; rw [g1] at g2; exact g2
        · rw [pick_snoc B D m z Hz.out, List.length_append]; simp; omega
        · rw [pick_snoc B D m z Hz.out]; exact HO9.out
        · simp [intOf]; omega
end Go.Proofs.Ytkioohhjjdlhiaa
