/- The walk of RedoTwo. -/
import Derived.Test.YtkioohhjjdlhiaaGreatTwoP
import Derived.Test.YtkioohhjjdlhiaaGreatAwake14
import Derived.Test.YtkioohhjjdlhiaaGreatRedS
import Derived.Test.YtkioohhjjdlhiaaGreatRedT
import Derived.Test.YtkioohhjjdlhiaaGreatCellV
set_option linter.all false
set_option linter.unusedVariables false
set_option linter.unusedSimpArgs false
namespace Go.Proofs.YtkioohhjjdlhiaaGreat
open Go.RowKit

/-- Two turns, as a list. -/
theorem turns_two {w : World} {b : Nat} {ea eb : Option Addr} {E F : List (Int × Int)} {hd hb : Bool} {ec fc : Nat} (B : Blk w b 60 #[.slice ea E.length ec, .bool hd, .slice eb F.length fc, .bool hb]) (r : RowC w ea E) (q : RowC w eb F) : TurnsAt w (some ⟨b, 0, none⟩) [(E, hd), (F, hb)] := fun _ => ⟨b, 0, rfl, B.lt, fun k hk => by
  match k, hk with
  | 0, _ => exact ⟨ea, ec, B.at 0 rfl, B.at 1 rfl, r⟩
  | 1, _ => exact ⟨eb, fc, B.at 2 rfl, B.at 3 rfl, q⟩
  | k + 2, hk => exact absurd hk (by show ¬ (k + 2 < 2); omega)⟩
theorem small_two {w : World} (W H : Int) (a : Option Addr) (n c : Nat) {ea eb : Option Addr} {E F : List (Int × Int)} {hd hb : Bool} {ec fc b : Nat} (B : Blk w b 60 #[.slice ea E.length ec, .bool hd, .slice eb F.length fc, .bool hb]) (r : RowC w ea E) (q : RowC w eb F) :
    Calls Tryz.prog 20 #[.agg #[.int .i64 W, .int .i64 H, .slice a n c], .slice (some ⟨b, 0, none⟩) 2 2] w fun e w' => e = .returned (.bool (smallT n [(E, hd), (F, hb)])) ∧ Ext w w' :=
  small14_any W H a n c (L := [(E, hd), (F, hb)]) 2 (turns_two B r q) (by simp)

set_option maxRecDepth 100000 in
theorem rt_far {w : World} (W H : Int) (a : Option Addr) (n c : Nat) (s : Int) {ea eb : Option Addr} {E F : List (Int × Int)} {hd hb : Bool} (ec fc : Nat) (he : RowC w ea E) (hf : RowC w eb F) (h : smallT n [(E, hd), (F, hb)] = false) :
    Calls Tryz.prog 6 #[.agg #[.int .i64 W, .int .i64 H, .slice a n c], .int .i64 s, .agg #[.slice ea E.length ec, .bool hd, .slice eb F.length fc, .bool hb]] w fun e w' => e = .returned (.bool true) ∧ Ext w w' := by
  have HS := hide (fun (w' : World) (b : Nat) (x : Ext w w') (B : Blk w' b 60 #[.slice ea E.length ec, .bool hd, .slice eb F.length fc, .bool hb]) => small_two (w := w') W H a n c B (he.ext x) (hf.ext x))
  rw [h] at HS
  obtain ⟨m, hm⟩ : ∃ z, E.length = z := ⟨_, rfl⟩
  obtain ⟨m2, hm2⟩ : ∃ z, F.length = z := ⟨_, rfl⟩
  rw [hm, hm2] at HS ⊢
  clear he h hm hf hm2
  go_enter Tryz.func6, Tryz.ntmps6
  go_wp2_with fail
  obtain ⟨w1, hw1⟩ : ∃ z, z = (w.alloc (.cells #[.int .i64 W, .int .i64 H, .slice a n c] 26)).alloc (.cells #[.slice ea m ec, .bool hd, .slice eb m2 fc, .bool hb] 60) := ⟨_, rfl⟩
  have X1 := hide (show Ext w w1 by rw [hw1]; exact ((Ext.refl _).alloc _).alloc _)
  have B1 := hide (show Blk w1 w.heap.size 26 #[.int .i64 W, .int .i64 H, .slice a n c] by rw [hw1]; exact (Blk.new_ rfl).over)
  have T1 := hide (show Blk w1 (w.heap.size + 1) 60 #[.slice ea m ec, .bool hd, .slice eb m2 fc, .bool hb] by rw [hw1]; exact Blk.new_ (by simp))
  rw [← hw1]
  clear hw1
  have y0 := B1.out.at 0 rfl; have y1 := B1.out.at 1 rfl; have y2 := B1.out.at 2 rfl; have yz := B1.out.lt
  have u0 := T1.out.at 0 rfl; have u1 := T1.out.at 1 rfl; have u2 := T1.out.at 2 rfl; have u3 := T1.out.at 3 rfl; have uz := T1.out.lt
  refine seqH_start (S := (fun W => (∀ b o, b < w1.heap.size → W.cell? ⟨b, o, none⟩ = w1.cell? ⟨b, o, none⟩) ∧ Ext w1 W)) [(0, true), (1, true), (2, false), (3, true)] (by kernel_rfl) (by kernel_rfl) (by kernel_rfl) (by decide) (fun _ _ d _ _ h => by cases d <;> exact h) (by first | with_reducible exact pr_start _ | exact pr_of (by (with_reducible (repeat' (first | exact Ext.refl _ | assumption | refine Ext.drew ?_ | refine Ext.drewN ?_ _ | refine Ext.alloc ?_ _ | refine Ext.setCell ?_ ?_ _ | refine Ext.trans ?_ (by assumption)))); all_goals (first | (simp; done) | (simp; omega)))) (fun hHeld => ?_)
  iterate 2 (apply SeqH.free; (· (simp only [List.getElem?_toArray, List.getElem?_cons_succ, List.getElem?_cons_zero]; rfl)); (· first | exact Or.inr ⟨by rfl, rfl⟩ | (refine Or.inl ⟨by rfl, ?_⟩; intro w hSw; (try dsimp only at hSw); go_simp; try with_reducible rfl)); try simp only [Act.put, List.setIfInBounds_toArray, List.set_cons_zero, List.set_cons_succ])
  (apply SeqH.step; (· (simp only [List.getElem?_toArray, List.getElem?_cons_succ, List.getElem?_cons_zero]; rfl)); intro K hK; go_simp; refine (HS.out _ _ (X1.out.trans (by (with_reducible (repeat' (first | exact Ext.refl _ | assumption | refine Ext.drew ?_ | refine Ext.drewN ?_ _ | refine Ext.alloc ?_ _ | refine Ext.setCell ?_ ?_ _ | refine Ext.trans ?_ (by assumption)))); all_goals (first | (simp; done) | (simp; omega)))) (T1.out.ext (by (with_reducible (repeat' (first | exact Ext.refl _ | assumption | refine Ext.drew ?_ | refine Ext.drewN ?_ _ | refine Ext.alloc ?_ _ | refine Ext.setCell ?_ ?_ _ | refine Ext.trans ?_ (by assumption)))); all_goals (first | (simp; done) | (simp; omega))))).mono ?_; rintro e w2 ⟨rfl, hb2⟩; go_wp2_with fail; refine hK.out _ _ (pr_of (by (with_reducible (repeat' (first | exact Ext.refl _ | assumption | refine Ext.drew ?_ | refine Ext.drewN ?_ _ | refine Ext.alloc ?_ _ | refine Ext.setCell ?_ ?_ _ | refine Ext.trans ?_ (by assumption)))); all_goals (first | (simp; done) | (simp; omega)))) (fun hHeld => ?_); clear hK K; try simp only [Act.put, List.setIfInBounds_toArray, List.set_cons_zero, List.set_cons_succ])
  iterate 1 (apply SeqH.free; (· (simp only [List.getElem?_toArray, List.getElem?_cons_succ, List.getElem?_cons_zero]; rfl)); (· first | exact Or.inr ⟨by rfl, rfl⟩ | (refine Or.inl ⟨by rfl, ?_⟩; intro w hSw; (try dsimp only at hSw); go_simp; try with_reducible rfl)); try simp only [Act.put, List.setIfInBounds_toArray, List.set_cons_zero, List.set_cons_succ])
  refine SeqH.done ?_
  have XE := hide hHeld.2
  clear hHeld
  go_wp2_with fail
  refine (awake14_any _).mono ?_
  rintro e w3 ⟨rfl, hb3⟩
  go_wp2_with fail
  go_ret
  exact ⟨rfl, (X1.out.trans XE.out).trans hb3⟩

set_option maxRecDepth 100000 in
theorem rt_bad {w : World} (W H : Int) (a : Option Addr) (n c : Nat) (s : Int) {ea eb : Option Addr} {E F : List (Int × Int)} {hd hb : Bool} (ec fc : Nat) (he : RowC w ea E) (hf : RowC w eb F) (h : smallT n [(E, hd), (F, hb)] = true) (hne : newE W H n s ≠ 0) :
    Calls Tryz.prog 6 #[.agg #[.int .i64 W, .int .i64 H, .slice a n c], .int .i64 s, .agg #[.slice ea E.length ec, .bool hd, .slice eb F.length fc, .bool hb]] w fun e w' => e = .returned (.bool true) ∧ Ext w w' := by
  have HS := hide (fun (w' : World) (b : Nat) (x : Ext w w') (B : Blk w' b 60 #[.slice ea E.length ec, .bool hd, .slice eb F.length fc, .bool hb]) => small_two (w := w') W H a n c B (he.ext x) (hf.ext x))
  rw [h] at HS
  have HB := hide (fun (w' : World) => rdNew_bad (w := w') W H a n c s hne)
  generalize newE W H n s = er at *
  have hne : (er != 0) = true := by simpa using hne
  obtain ⟨m, hm⟩ : ∃ z, E.length = z := ⟨_, rfl⟩
  obtain ⟨m2, hm2⟩ : ∃ z, F.length = z := ⟨_, rfl⟩
  rw [hm, hm2] at HS ⊢
  clear he h hm hf hm2
  go_enter Tryz.func6, Tryz.ntmps6
  go_wp2_with fail
  obtain ⟨w1, hw1⟩ : ∃ z, z = (w.alloc (.cells #[.int .i64 W, .int .i64 H, .slice a n c] 26)).alloc (.cells #[.slice ea m ec, .bool hd, .slice eb m2 fc, .bool hb] 60) := ⟨_, rfl⟩
  have X1 := hide (show Ext w w1 by rw [hw1]; exact ((Ext.refl _).alloc _).alloc _)
  have B1 := hide (show Blk w1 w.heap.size 26 #[.int .i64 W, .int .i64 H, .slice a n c] by rw [hw1]; exact (Blk.new_ rfl).over)
  have T1 := hide (show Blk w1 (w.heap.size + 1) 60 #[.slice ea m ec, .bool hd, .slice eb m2 fc, .bool hb] by rw [hw1]; exact Blk.new_ (by simp))
  rw [← hw1]
  clear hw1
  have y0 := B1.out.at 0 rfl; have y1 := B1.out.at 1 rfl; have y2 := B1.out.at 2 rfl; have yz := B1.out.lt
  have u0 := T1.out.at 0 rfl; have u1 := T1.out.at 1 rfl; have u2 := T1.out.at 2 rfl; have u3 := T1.out.at 3 rfl; have uz := T1.out.lt
  refine seqH_start (S := (fun W => (∀ b o, b < w1.heap.size → W.cell? ⟨b, o, none⟩ = w1.cell? ⟨b, o, none⟩) ∧ Ext w1 W)) [(0, true), (1, true), (2, false), (3, true)] (by kernel_rfl) (by kernel_rfl) (by kernel_rfl) (by decide) (fun _ _ d _ _ h => by cases d <;> exact h) (by first | with_reducible exact pr_start _ | exact pr_of (by (with_reducible (repeat' (first | exact Ext.refl _ | assumption | refine Ext.drew ?_ | refine Ext.drewN ?_ _ | refine Ext.alloc ?_ _ | refine Ext.setCell ?_ ?_ _ | refine Ext.trans ?_ (by assumption)))); all_goals (first | (simp; done) | (simp; omega)))) (fun hHeld => ?_)
  iterate 2 (apply SeqH.free; (· (simp only [List.getElem?_toArray, List.getElem?_cons_succ, List.getElem?_cons_zero]; rfl)); (· first | exact Or.inr ⟨by rfl, rfl⟩ | (refine Or.inl ⟨by rfl, ?_⟩; intro w hSw; (try dsimp only at hSw); go_simp; try with_reducible rfl)); try simp only [Act.put, List.setIfInBounds_toArray, List.set_cons_zero, List.set_cons_succ])
  (apply SeqH.step; (· (simp only [List.getElem?_toArray, List.getElem?_cons_succ, List.getElem?_cons_zero]; rfl)); intro K hK; go_simp; refine (HS.out _ _ (X1.out.trans (by (with_reducible (repeat' (first | exact Ext.refl _ | assumption | refine Ext.drew ?_ | refine Ext.drewN ?_ _ | refine Ext.alloc ?_ _ | refine Ext.setCell ?_ ?_ _ | refine Ext.trans ?_ (by assumption)))); all_goals (first | (simp; done) | (simp; omega)))) (T1.out.ext (by (with_reducible (repeat' (first | exact Ext.refl _ | assumption | refine Ext.drew ?_ | refine Ext.drewN ?_ _ | refine Ext.alloc ?_ _ | refine Ext.setCell ?_ ?_ _ | refine Ext.trans ?_ (by assumption)))); all_goals (first | (simp; done) | (simp; omega))))).mono ?_; rintro e w2 ⟨rfl, hb2⟩; go_wp2_with fail; refine hK.out _ _ (pr_of (by (with_reducible (repeat' (first | exact Ext.refl _ | assumption | refine Ext.drew ?_ | refine Ext.drewN ?_ _ | refine Ext.alloc ?_ _ | refine Ext.setCell ?_ ?_ _ | refine Ext.trans ?_ (by assumption)))); all_goals (first | (simp; done) | (simp; omega)))) (fun hHeld => ?_); clear hK K; try simp only [Act.put, List.setIfInBounds_toArray, List.set_cons_zero, List.set_cons_succ])
  iterate 1 (apply SeqH.free; (· (simp only [List.getElem?_toArray, List.getElem?_cons_succ, List.getElem?_cons_zero]; rfl)); (· first | exact Or.inr ⟨by rfl, rfl⟩ | (refine Or.inl ⟨by rfl, ?_⟩; intro w hSw; (try dsimp only at hSw); go_simp; try with_reducible rfl)); try simp only [Act.put, List.setIfInBounds_toArray, List.set_cons_zero, List.set_cons_succ])
  refine SeqH.done ?_
  have XE := hide hHeld.2
  have B2 := hide (B1.out.ext XE.out)
  clear hHeld y0 y1 y2 yz u0 u1 u2 u3 uz
  have y0 := B2.out.at 0 rfl; have y1 := B2.out.at 1 rfl; have y2 := B2.out.at 2 rfl; have yz := B2.out.lt
  go_wp2_with fail
  refine (HB.out _).mono ?_
  rintro e w3 ⟨rfl, hb3⟩
  go_wp2_with fail
  refine (awake14_any _).mono ?_
  rintro e w4 ⟨rfl, hb4⟩
  go_wp2_with fail
  go_ret
  exact ⟨rfl, ((X1.out.trans XE.out).trans hb3).trans hb4⟩

theorem gates_few2 {W H s : Int} {l : List Int} (g : Good W H s l) (hl : l.length ≤ 260) : cnt W H s ≤ 260 ∧ (gatesA W H s l).length ≤ 50000 := by
  have h1 : cnt W H s ≤ W * H := by
    obtain ⟨r1, r2, r3, r4, r5, r6⟩ := rightB_true.1 g.right
    have b1 := acr_bd W s r5 r6 r1 r2
    have b2 := acr_bd H s r5 r6 r3 r4
    have hle : ∀ L : Int, 1 ≤ L → acr L s ≤ L := fun L hL => by
      unfold acr
      apply Int.ediv_le_of_le_mul (by omega)
      have := Int.mul_nonneg (show (0 : Int) ≤ L - 1 by omega) (show (0 : Int) ≤ s - 1 by omega)
      rw [Int.sub_mul, Int.mul_sub] at this
      omega
    unfold cnt
    exact Int.mul_le_mul (hle W r1) (hle H r3) (by omega) (by omega)
  have h2 := (checkE_ok.1 g.ok).2
  have h3 := g.cnt
  have h4 := ofG_len (l := l) g.right (n := (cnt W H s).toNat) (by omega)
  refine ⟨by omega, ?_⟩
  unfold gatesA
  omega

/-- An update that is right. -/
def UpdD (w : World) (p : Spot) (R : Nat → Prop) (W H s : Int) (l l' : List Int) (cs : List Cell) (N : Nat) (e : Ending) (w' : World) : Prop :=
  ∃ ia ic p' R', e = .returned (.tuple #[.slice ia (toldU W H s l l' cs N).length ic, .int .i64 0]) ∧ Own intE w' w.heap.size 3 (.slice ia (toldU W H s l l' cs N).length ic) (toldU W H s l l' cs N) ∧ WorldAt w' p' R' W H s l' ∧ p'.b = p.b ∧ (∀ k, p'.F k ↔ p.F k) ∧ Touch p.F w w' ∧ ∀ k, R' k → R k ∨ w.heap.size ≤ k
theorem upd_done {w : World} {p : Spot} {R : Nat → Prop} {W H s : Int} {l l' : List Int} {cs : List Cell} {a ca : Option Addr} {n m N : Nat} {b : Nat} (c cc : Nat) (h : WorldAt w p R W H s l) (g : Good W H s l') (hl : l'.length = n) (hn : n ≤ 260) (hm : cs.length = m) (hm2 : m ≤ 100) (hN : (cnt W H s) = (N : Int)) (hb : p.b = b)
    (hr : Row16 w a l') (hc : RowC w ca cs) (he : updE W H l W H l' cs = 0) :
    Calls Tryz.prog 22 #[.pointer (some ⟨b, 0, none⟩), .agg #[.int .i64 W, .int .i64 H, .slice a n c], .slice ca m cc] w (UpdD w p R W H s l l' cs N) := by
  subst hl hm hb
  refine (upd_any h c hr g.u16 cc hc (by omega) g.ok (gates_few2 g hn).2).mono ?_
  rintro e w' (⟨h1, _⟩ | ⟨_, v, p', R', h1, h2, h3⟩)
  · exact absurd he h1
  · rw [show (cnt W H s).toNat = N by omega] at h2
    obtain ⟨ia, ic, rfl⟩ := h2.slice
    exact ⟨ia, ic, p', R', h1, h2, h3⟩

/-- All that is neither of the worlds: two fields, their rows, the cells. -/
structure Bag (w : World) (D : Nat → Prop) (W H : Int) (n : Nat) (b1 b2 b3 : Nat) (a ga gb : Option Addr) (c gc gd : Nat) (l la lb : List Int) (u1 u2 u3 : Option Addr) (c1 c2 c3 : List Cell) : Prop where
  f1 : Blk w b1 26 #[.int .i64 W, .int .i64 H, .slice a n c]
  f2 : Blk w b2 26 #[.int .i64 W, .int .i64 H, .slice ga n gc]
  f3 : Blk w b3 26 #[.int .i64 W, .int .i64 H, .slice gb n gd]
  r1 : Row16 w a l
  r2 : Row16 w ga la
  r3 : Row16 w gb lb
  s1 : RowC w u1 c1
  s2 : RowC w u2 c2
  s3 : RowC w u3 c3
  d1 : D b1 ∧ D b2 ∧ D b3
  d2 : (∀ g o, a = some ⟨g, o, none⟩ → D g) ∧ (∀ g o, ga = some ⟨g, o, none⟩ → D g) ∧ (∀ g o, gb = some ⟨g, o, none⟩ → D g)
  d3 : (∀ g o, u1 = some ⟨g, o, none⟩ → D g) ∧ (∀ g o, u2 = some ⟨g, o, none⟩ → D g) ∧ (∀ g o, u3 = some ⟨g, o, none⟩ → D g)
theorem Bag.touch {w w' : World} {D S : Nat → Prop} {W H : Int} {n b1 b2 b3 : Nat} {a ga gb : Option Addr} {c gc gd : Nat} {l la lb : List Int} {u1 u2 u3 : Option Addr} {c1 c2 c3 : List Cell}
    (h : Bag w D W H n b1 b2 b3 a ga gb c gc gd l la lb u1 u2 u3 c1 c2 c3) (t : Touch S w w') (hs : ∀ k, D k → ¬ S k) : Bag w' D W H n b1 b2 b3 a ga gb c gc gd l la lb u1 u2 u3 c1 c2 c3 where
  f1 := h.f1.touch t (hs _ h.d1.1)
  f2 := h.f2.touch t (hs _ h.d1.2.1)
  f3 := h.f3.touch t (hs _ h.d1.2.2)
  r1 := h.r1.touch t fun b o e => hs _ (h.d2.1 b o e)
  r2 := h.r2.touch t fun b o e => hs _ (h.d2.2.1 b o e)
  r3 := h.r3.touch t fun b o e => hs _ (h.d2.2.2 b o e)
  s1 := h.s1.touch t fun b o e => hs _ (h.d3.1 b o e)
  s2 := h.s2.touch t fun b o e => hs _ (h.d3.2.1 b o e)
  s3 := h.s3.touch t fun b o e => hs _ (h.d3.2.2 b o e)
  d1 := h.d1
  d2 := h.d2
  d3 := h.d3
theorem Bag.ext {w w' : World} {D : Nat → Prop} {W H : Int} {n b1 b2 b3 : Nat} {a ga gb : Option Addr} {c gc gd : Nat} {l la lb : List Int} {u1 u2 u3 : Option Addr} {c1 c2 c3 : List Cell}
    (h : Bag w D W H n b1 b2 b3 a ga gb c gc gd l la lb u1 u2 u3 c1 c2 c3) (t : Ext w w') : Bag w' D W H n b1 b2 b3 a ga gb c gc gd l la lb u1 u2 u3 c1 c2 c3 :=
  h.touch (Touch.of_ext (S := fun _ => False) t) (fun _ _ h => h)

set_option maxRecDepth 100000 in
set_option maxHeartbeats 4000000 in
theorem rt_main {w : World} {W H : Int} {a : Option Addr} {l : List Int} (c : Nat) {s : Int} {ea eb : Option Addr} {E F : List (Int × Int)} {hd hb : Bool} (ec fc : Nat) (g : Good W H s l) (hr : Row16 w a l) (he : RowC w ea E) (hf : RowC w eb F) (hi : ∀ e ∈ E, InI e.1 ∧ InI e.2) (hj : ∀ e ∈ F, InI e.1 ∧ InI e.2) (h : smallT l.length [(E, hd), (F, hb)] = true) :
    Calls Tryz.prog 6 #[.agg #[.int .i64 W, .int .i64 H, .slice a l.length c], .int .i64 s, .agg #[.slice ea E.length ec, .bool hd, .slice eb F.length fc, .bool hb]] w fun e w' => e = .returned (.bool true) ∧ Ext w w' := by
  obtain ⟨hl260, _, hl20⟩ := smallT_true h
  have hE20 := hl20 (E, hd) (by simp)
  have hF20 := hl20 (F, hb) (by simp)
  have HS := hide (fun (w' : World) (b : Nat) (x : Ext w w') (B : Blk w' b 60 #[.slice ea E.length ec, .bool hd, .slice eb F.length fc, .bool hb]) => small_two (w := w') W H a l.length c B (he.ext x) (hf.ext x))
  rw [h] at HS
  have HG := hide g
  have HNW := hide (fun (w' : World) (x : Ext w w') => rdNew_yes (w := w') c g (hr.ext x) (gates_few2 g hl260).2)
  have HRW := hide hr
  obtain ⟨la, hla⟩ : ∃ z, turnL l E = z := ⟨_, rfl⟩
  obtain ⟨lb, hlb⟩ : ∃ z, turnL la F = z := ⟨_, rfl⟩
  obtain ⟨c1, hc1⟩ : ∃ z, namedL W l.length E false = z := ⟨_, rfl⟩
  obtain ⟨c2, hc2⟩ : ∃ z, namedL W l.length F false = z := ⟨_, rfl⟩
  have lla : la.length = l.length := by rw [← hla, turnL_len]
  have llb : lb.length = l.length := by rw [← hlb, turnL_len, lla]
  have HTA := hide (fun (w' : World) (x : Ext w w') => turned_any (w := w') (l := l) c g.ok (hr.ext x) (by omega) ec (he.ext x) hE20 hi false)
  have HTB := hide (fun (w' : World) (ga : Option Addr) (gc : Nat) (x : Ext w w') (r : Row16 w' ga la) => turned_any (w := w') (W := W) (H := H) (l := la) gc (by rw [lla]; exact g.ok) r (by omega) fc (hf.ext x) hF20 hj false)
  rw [hla, hc1] at HTA
  rw [hlb, lla, hc2] at HTB
  have HOK := hide (two_ok g.ok E F)
  rw [hla, hlb, hc1, hc2] at HOK
  have GA := hide (show Good W H s la from ⟨by rw [lla]; exact g.ok, g.right, by rw [← hla]; exact turnL_u16 g.u16 E⟩)
  have GB := hide (show Good W H s lb from ⟨by rw [llb]; exact g.ok, g.right, by rw [← hlb]; exact turnL_u16 GA.out.u16 F⟩)
  have hc1l : c1.length ≤ 20 := by rw [← hc1]; exact Nat.le_trans (namedL_len _ _ _ _) hE20
  have hc2l : c2.length ≤ 20 := by rw [← hc2]; exact Nat.le_trans (namedL_len _ _ _ _) hF20
  have HIN := hide (two_in g.ok E F)
  rw [hc1, hc2] at HIN
  have hw1 : ¬ W < 1 := by have := (mayB_true.1 (checkE_ok.1 g.ok).1); omega
  have hw1' : decide (W < 1) = false := by simp; omega
  have hpos : 1 ≤ l.length := by
    obtain ⟨hm, hl⟩ := checkE_ok.1 g.ok
    obtain ⟨q1, q2, q3, q4⟩ := mayB_true.1 hm
    have := Int.mul_pos (show (0 : Int) < W by omega) (show (0 : Int) < H by omega)
    omega
  have bcn := g.cnt
  obtain ⟨N, hN⟩ : ∃ N : Nat, (cnt W H s).toNat = N := ⟨_, rfl⟩
  have HN := hide (show cnt W H s = (N : Int) by omega)
  have hN2 : N ≤ 260 := by have := (gates_few2 g hl260).1; omega
  have HGS := hide (fun (l' : List Int) (g' : Good W H s l') (h' : l'.length = l.length) => (gates_few2 g' (by omega)).2)
  obtain ⟨n, hn⟩ : ∃ z, l.length = z := ⟨_, rfl⟩
  obtain ⟨m, hm⟩ : ∃ z, E.length = z := ⟨_, rfl⟩
  obtain ⟨m2, hm2⟩ : ∃ z, F.length = z := ⟨_, rfl⟩
  rw [hn] at lla llb
  have LN := hide hn
  have LA := hide lla
  have LB := hide llb
  rw [hn, hm, hm2] at HS
  rw [hn, hm] at HTA
  rw [hn, hm2] at HTB
  rw [hn] at HNW hpos hl260
  rw [hn, hm, hm2]
  have hn1 : ¬ (n : Int) < 1 := by omega
  have hn1' : decide ((n : Int) < 1) = false := by simp; omega
  clear g hr he hf hi hj h hE20 hF20 hl20 hn hm hm2 hN bcn hla hlb hc1 hc2 lla llb
  go_enter Tryz.func6, Tryz.ntmps6
  go_wp2_with fail
  obtain ⟨w0, hw0⟩ : ∃ z, z = (w.alloc (.cells #[.int .i64 W, .int .i64 H, .slice a n c] 26)).alloc (.cells #[.slice ea m ec, .bool hd, .slice eb m2 fc, .bool hb] 60) := ⟨_, rfl⟩
  have X0 := hide (show Ext w w0 by rw [hw0]; exact ((Ext.refl _).alloc _).alloc _)
  have B0 := hide (show Blk w0 w.heap.size 26 #[.int .i64 W, .int .i64 H, .slice a n c] by rw [hw0]; exact (Blk.new_ rfl).over)
  have T0 := hide (show Blk w0 (w.heap.size + 1) 60 #[.slice ea m ec, .bool hd, .slice eb m2 fc, .bool hb] by rw [hw0]; exact Blk.new_ (by simp))
  rw [← hw0]
  clear hw0
  have y0 := B0.out.at 0 rfl; have y1 := B0.out.at 1 rfl; have y2 := B0.out.at 2 rfl; have yz := B0.out.lt
  have u0 := T0.out.at 0 rfl; have u1 := T0.out.at 1 rfl; have u2 := T0.out.at 2 rfl; have u3 := T0.out.at 3 rfl; have uz := T0.out.lt
  refine seqH_start (S := (fun W => (∀ b o, b < w0.heap.size → W.cell? ⟨b, o, none⟩ = w0.cell? ⟨b, o, none⟩) ∧ Ext w0 W)) [(0, true), (1, true), (2, false), (3, true)] (by kernel_rfl) (by kernel_rfl) (by kernel_rfl) (by decide) (fun _ _ d _ _ h => by cases d <;> exact h) (by first | with_reducible exact pr_start _ | exact pr_of (by (with_reducible (repeat' (first | exact Ext.refl _ | assumption | refine Ext.drew ?_ | refine Ext.drewN ?_ _ | refine Ext.alloc ?_ _ | refine Ext.setCell ?_ ?_ _ | refine Ext.trans ?_ (by assumption)))); all_goals (first | (simp; done) | (simp; omega)))) (fun hHeld => ?_)
  iterate 2 (apply SeqH.free; (· (simp only [List.getElem?_toArray, List.getElem?_cons_succ, List.getElem?_cons_zero]; rfl)); (· first | exact Or.inr ⟨by rfl, rfl⟩ | (refine Or.inl ⟨by rfl, ?_⟩; intro w hSw; (try dsimp only at hSw); go_simp; try with_reducible rfl)); try simp only [Act.put, List.setIfInBounds_toArray, List.set_cons_zero, List.set_cons_succ])
  (apply SeqH.step; (· (simp only [List.getElem?_toArray, List.getElem?_cons_succ, List.getElem?_cons_zero]; rfl)); intro K hK; go_simp; refine (HS.out _ _ (X0.out.trans (by (with_reducible (repeat' (first | exact Ext.refl _ | assumption | refine Ext.drew ?_ | refine Ext.drewN ?_ _ | refine Ext.alloc ?_ _ | refine Ext.setCell ?_ ?_ _ | refine Ext.trans ?_ (by assumption)))); all_goals (first | (simp; done) | (simp; omega)))) (T0.out.ext (by (with_reducible (repeat' (first | exact Ext.refl _ | assumption | refine Ext.drew ?_ | refine Ext.drewN ?_ _ | refine Ext.alloc ?_ _ | refine Ext.setCell ?_ ?_ _ | refine Ext.trans ?_ (by assumption)))); all_goals (first | (simp; done) | (simp; omega))))).mono ?_; rintro e w1 ⟨rfl, hb1⟩; go_wp2_with fail; refine hK.out _ _ (pr_of (by (with_reducible (repeat' (first | exact Ext.refl _ | assumption | refine Ext.drew ?_ | refine Ext.drewN ?_ _ | refine Ext.alloc ?_ _ | refine Ext.setCell ?_ ?_ _ | refine Ext.trans ?_ (by assumption)))); all_goals (first | (simp; done) | (simp; omega)))) (fun hHeld => ?_); clear hK K; try simp only [Act.put, List.setIfInBounds_toArray, List.set_cons_zero, List.set_cons_succ])
  iterate 1 (apply SeqH.free; (· (simp only [List.getElem?_toArray, List.getElem?_cons_succ, List.getElem?_cons_zero]; rfl)); (· first | exact Or.inr ⟨by rfl, rfl⟩ | (refine Or.inl ⟨by rfl, ?_⟩; intro w hSw; (try dsimp only at hSw); go_simp; try with_reducible rfl)); try simp only [Act.put, List.setIfInBounds_toArray, List.set_cons_zero, List.set_cons_succ])
  refine SeqH.done ?_
  have XE := hide hHeld.2
  have B1 := hide (B0.out.ext XE.out)
  have T1 := hide (T0.out.ext XE.out)
  have X1 := hide (X0.out.trans XE.out)
  clear hHeld y0 y1 y2 yz u0 u1 u2 u3 uz B0 T0 X0
  obtain ⟨z1, hz1⟩ : ∃ z, z = w.heap.size + 2 := ⟨_, rfl⟩
  have hz1a : z1 ≤ w.heap.size + 2 := by omega
  have hz1b : w.heap.size + 2 ≤ z1 := by omega
  clear hz1
  have hz1w := T1.out.lt
  have y0 := B1.out.at 0 rfl; have y1 := B1.out.at 1 rfl; have y2 := B1.out.at 2 rfl; have yz := B1.out.lt
  have u0 := T1.out.at 0 rfl; have u1 := T1.out.at 1 rfl; have u2 := T1.out.at 2 rfl; have u3 := T1.out.at 3 rfl; have uz := T1.out.lt
  go_wp2_with fail
  refine (HNW.out _ X1.out).mono ?_
  rintro e w2 ⟨p, R, rfl, hw, x2, hF, hR⟩
  have B2 := hide (B1.out.ext x2)
  have T2 := hide (T1.out.ext x2)
  have X2 := hide (X1.out.trans x2)
  have HW := hide hw
  have HF := hide (show ∀ k, p.F k → z1 ≤ k ∧ k < w2.heap.size from fun k hk => by
    have h1 := hF k hk
    have h2 := T1.out.lt
    have h4 := hb1.size
    obtain ⟨G, T, h3, _⟩ := hw
    have h5 := h3.foot hk
    omega)
  have HA := hide (show ∀ k, R k → ¬ p.F k ∧ k < w2.heap.size from by obtain ⟨G, T, h3, _⟩ := hw; exact fun k hk => ⟨h3.apart k hk, h3.lt k hk⟩)
  have z12 := x2.size
  clear hw x2 hF hR y0 y1 y2 yz u0 u1 u2 u3 uz B1 T1 X1
  have y0 := B2.out.at 0 rfl; have y1 := B2.out.at 1 rfl; have y2 := B2.out.at 2 rfl; have yz := B2.out.lt
  have u0 := T2.out.at 0 rfl; have u1 := T2.out.at 1 rfl; have u2 := T2.out.at 2 rfl; have u3 := T2.out.at 3 rfl; have uz := T2.out.lt
  go_wp2_with fail
  refine (HTA.out _ X2.out).mono ?_
  rintro e w3 ⟨ga, gc, v3, rfl, x3, og3, oc3⟩
  rw [LA.out] at og3 ⊢
  obtain ⟨u1a, u1c, rfl⟩ := oc3.slice
  obtain ⟨k1, hk1⟩ : ∃ z, c1.length = z := ⟨_, rfl⟩
  have LC1 := hide hk1
  have hk1l : k1 ≤ 20 := by omega
  rw [hk1] at oc3 ⊢
  have B3 := hide (B2.out.ext x3)
  have T3 := hide (T2.out.ext x3)
  have X3 := hide (X2.out.trans x3)
  have WA3 := hide (HW.out.ext x3)
  have OG3 := hide og3
  have OC3 := hide oc3
  have z23 := x3.size
  clear og3 oc3 x3 hk1 hc1l y0 y1 y2 yz u0 u1 u2 u3 uz B2 T2 X2 HW
  have y0 := B3.out.at 0 rfl; have y1 := B3.out.at 1 rfl; have y2 := B3.out.at 2 rfl; have yz := B3.out.lt
  have u0 := T3.out.at 0 rfl; have u1 := T3.out.at 1 rfl; have u2 := T3.out.at 2 rfl; have u3 := T3.out.at 3 rfl; have uz := T3.out.lt
  go_wp2_with fail
  obtain ⟨w4, hw4⟩ : ∃ z, z = w3.alloc (.cells #[.int .i64 W, .int .i64 H, .slice ga n gc] 26) := ⟨_, rfl⟩
  have x4 : Ext w3 w4 := by rw [hw4]; exact (Ext.refl _).alloc _
  have FA4 := hide (show Blk w4 w3.heap.size 26 #[.int .i64 W, .int .i64 H, .slice ga n gc] by rw [hw4]; exact Blk.new_ rfl)
  have B4 := hide (B3.out.ext x4)
  have T4 := hide (T3.out.ext x4)
  have X4 := hide (X3.out.trans x4)
  have WA4 := hide (WA3.out.ext x4)
  have OG4 := hide (OG3.out.ext x4)
  have OC4 := hide (OC3.out.ext x4)
  have z34 : w3.heap.size < w4.heap.size := FA4.out.lt
  rw [← hw4]
  refine (HTB.out _ ga gc X4.out (row16_ownG OG4.out)).mono ?_
  rintro e w5 ⟨gb, gd, v5, rfl, x5, og5, oc5⟩
  rw [LB.out] at og5 ⊢
  obtain ⟨u2a, u2c, rfl⟩ := oc5.slice
  obtain ⟨k2, hk2⟩ : ∃ z, c2.length = z := ⟨_, rfl⟩
  have LC2 := hide hk2
  have hk2l : k2 ≤ 20 := by omega
  rw [hk2] at oc5 ⊢
  have B5 := hide (B4.out.ext x5)
  have X5 := hide (X4.out.trans x5)
  have WA5 := hide (WA4.out.ext x5)
  have FA5 := hide (FA4.out.ext x5)
  have OG5 := hide (OG4.out.ext x5)
  have OC5 := hide (OC4.out.ext x5)
  have OH5 := hide og5
  have OD5 := hide oc5
  have z45 := x5.size
  clear og5 oc5 x5 x4 hk2 hc2l hw4 y0 y1 y2 yz u0 u1 u2 u3 uz B3 B4 T3 T4 X3 X4 WA3 WA4 OG3 OG4 OC3 OC4 FA4 HTA HTB
  go_upto_region 10 with (fail)
  obtain ⟨w6, hw6⟩ : ∃ z, z = w5.alloc (.cells #[.int .i64 W, .int .i64 H, .slice gb n gd] 26) := ⟨_, rfl⟩
  have x6 : Ext w5 w6 := by rw [hw6]; exact (Ext.refl _).alloc _
  have FB6 := hide (show Blk w6 w5.heap.size 26 #[.int .i64 W, .int .i64 H, .slice gb n gd] by rw [hw6]; exact Blk.new_ rfl)
  have B6 := hide (B5.out.ext x6)
  have X6 := hide (X5.out.trans x6)
  have WA6 := hide (WA5.out.ext x6)
  have FA6 := hide (FA5.out.ext x6)
  have OG6 := hide (OG5.out.ext x6)
  have OC6 := hide (OC5.out.ext x6)
  have OH6 := hide (OH5.out.ext x6)
  have OD6 := hide (OD5.out.ext x6)
  have z56 : w5.heap.size < w6.heap.size := FB6.out.lt
  rw [← hw6]
  clear hw6 x6 B5 X5 WA5 FA5 OG5 OC5 OH5 OD5
  go_wp2_with (first
    | (at_builtin; refine wpList_app_rows cellE T_cells rfl _ _ rfl w6.heap.size _ [] c1 rfl (Own.lit0 cellE w6 _ _ _ rfl (Nat.le_refl _)) _ rfl (OC6.out.reads.ext ((Ext.refl _).alloc _)) (by rw [LC1.out]; simp; omega) (by rw [LC1.out]; simp; omega) (by simp) ?_; intro v8 w8 o8 t8 l8; have O8 := hide o8; have X8 := hide (((Ext.refl w6).alloc (.cells #[] 69)).of_below (t8.to_below (B := w6.heap.size) (by simp) (fun k hk => by cases hk; exact Nat.le_refl _)) (Nat.le_refl _)); clear o8 t8 l8)
    | (at_builtin; refine wpList_app_rows cellE T_cells rfl _ _ rfl w6.heap.size _ _ c2 rfl O8.out _ rfl (OD6.out.reads.ext X8.out) (by rw [List.length_append, LC1.out, LC2.out]; simp; omega) (by rw [List.length_append, LC1.out, LC2.out]; simp; omega) (X8.out.size) ?_; intro v9 w9 o9 t9 l9; have O9 := hide o9; have X9 := hide (X8.out.of_below (t9.to_below (B := w6.heap.size) X8.out.size (fun k hk => (own_lt O8.out hk).1)) (Nat.le_refl _)); clear o9 t9 l9))
  have o9 := O9.out
  rw [List.nil_append] at o9
  obtain ⟨u3a, u3c, rfl⟩ := o9.slice
  obtain ⟨k3, hk3⟩ : ∃ z, (c1 ++ c2).length = z := ⟨_, rfl⟩
  have LC3 := hide hk3
  have hk3l : k3 ≤ 40 := by rw [← hk3, List.length_append, LC1.out, LC2.out]; omega
  rw [hk3] at o9 ⊢
  have OE9 := hide o9
  obtain ⟨z2, hz2⟩ : ∃ z, w2.heap.size = z := ⟨_, rfl⟩
  have hz2a : z2 ≤ w2.heap.size := by omega
  have hz2b : w2.heap.size ≤ z2 := by omega
  obtain ⟨z9, hz9⟩ : ∃ z, w9.heap.size = z := ⟨_, rfl⟩
  have hz9a : z9 ≤ w9.heap.size := by omega
  have hz9b : w9.heap.size ≤ z9 := by omega
  clear hz2 hz9
  have zz6 := X9.out.size
  have BG : Hid (Bag w9 (fun k => (k < z1 ∨ z2 ≤ k) ∧ k < z9) W H n w.heap.size w3.heap.size w5.heap.size a ga gb c gc gd l la lb u1a u2a u3a c1 c2 (c1 ++ c2)) := hide {
    f1 := B6.out.ext X9.out
    f2 := FA6.out.ext X9.out
    f3 := FB6.out.ext X9.out
    r1 := HRW.out.ext (X6.out.trans X9.out)
    r2 := (row16_ownG OG6.out).ext X9.out
    r3 := (row16_ownG OH6.out).ext X9.out
    s1 := by have h := (Reads.rowC OC6.out.reads).2; exact h.ext X9.out
    s2 := by have h := (Reads.rowC OD6.out.reads).2; exact h.ext X9.out
    s3 := (Reads.rowC OE9.out.reads).2
    d1 := ⟨⟨.inl (by omega), by omega⟩, ⟨.inr (by omega), by omega⟩, ⟨.inr (by omega), by omega⟩⟩
    d2 := ⟨fun g o e => by
        obtain ⟨g', o', e', hg', _⟩ := HRW.out (by rw [LN.out]; omega)
        rw [e] at e'
        injection e' with e'
        injection e' with e1 _ _
        exact ⟨.inl (by omega), by omega⟩,
      fun g o e => by subst e; have h := own_lt OG6.out (k := g) rfl; exact ⟨.inr (by omega), by omega⟩,
      fun g o e => by subst e; have h := own_lt OH6.out (k := g) rfl; exact ⟨.inr (by omega), by omega⟩⟩
    d3 := ⟨fun g o e => by subst e; have h := own_lt OC6.out (k := g) rfl; exact ⟨.inr (by omega), by omega⟩,
      fun g o e => by subst e; have h := own_lt OD6.out (k := g) rfl; exact ⟨.inr (by omega), by omega⟩,
      fun g o e => by subst e; have h := own_lt OE9.out (k := g) rfl; exact ⟨.inr (by omega), by omega⟩⟩ }
  have WA9 := hide (WA6.out.ext X9.out)
  have X9w := hide (X6.out.trans X9.out)
  have hzw : w.heap.size < z1 ∧ z1 ≤ z2 ∧ z2 ≤ z9 := by omega
  clear o9 O9 OE9 hk3 B6 FA6 FB6 OG6 OC6 OH6 OD6 WA6 X6 X9 zz6 HRW
  go_wp2_with fail
  refine (rdClone_any WA9.out).mono ?_
  rintro e w10 ⟨q, S, rfl, x10, hq, hqF, hqS⟩
  have z10 := x10.size
  have QF := hide (show ∀ k, q.F k → z9 ≤ k ∧ k < w10.heap.size from fun k hk => ⟨by have := hqF k hk; omega, by obtain ⟨G, T, h1, _⟩ := hq; exact h1.foot hk⟩)
  have QS := hide (show ∀ k, S k → (R k ∨ z9 ≤ k) ∧ k < w10.heap.size from fun k hk => ⟨(hqS k hk).imp id (fun h => by omega), by obtain ⟨G, T, h1, _⟩ := hq; exact h1.lt k hk⟩)
  have BG10 := hide (BG.out.ext x10)
  have WA10 := hide (WA9.out.ext x10)
  have WB10 := hide hq
  have X10 := hide (X9w.out.trans x10)
  clear x10 hq hqF hqS BG WA9 X9w
  go_wp2_with fail
  refine (rdClone_any WA10.out).mono ?_
  rintro e w11 ⟨v, V, rfl, x11, hv, hvF, hvS⟩
  have z11 := x11.size
  have VF := hide (show ∀ k, v.F k → w10.heap.size ≤ k ∧ k < w11.heap.size from fun k hk => ⟨hvF k hk, by obtain ⟨G, T, h1, _⟩ := hv; exact h1.foot hk⟩)
  have VS := hide (show ∀ k, V k → R k ∨ w10.heap.size ≤ k from hvS)
  have BG11 := hide (BG10.out.ext x11)
  have WA11 := hide (WA10.out.ext x11)
  have WB11 := hide (WB10.out.ext x11)
  have WC11 := hide hv
  have X11 := hide (X10.out.trans x11)
  clear x11 hv hvF hvS BG10 WA10 WB10 X10
  have HU1 := hide (upd_done gc u1c WA11.out GA.out LA.out hl260 LC1.out (by omega) HN.out rfl BG11.out.r2 BG11.out.s1 HOK.out.1)
  have y0 := BG11.out.f2.at 0 rfl
  have y1 := BG11.out.f2.at 1 rfl
  have y2 := BG11.out.f2.at 2 rfl
  have yz := BG11.out.f2.lt
  go_wp2_with fail
  refine (HU1.out).mono ?_
  rintro e w12 ⟨i1, j1, p1, R1, rfl, _, hw12, hb12, hF12, t12, hR12⟩
  generalize (toldU W H s l la c1 N).length = m1
  have BG12 := hide (BG11.out.touch t12 (fun k hk h => by have h1 := HF.out k h; omega))
  have WB12 := hide (WB11.out.touch t12 (fun k hk h => by have h1 := HF.out k h; have h2 := QF.out k hk; omega) (fun k hk h => (QS.out k hk).1.elim (fun hr => (HA.out k hr).1 h) (fun hge => by have h1 := HF.out k h; omega)))
  have WC12 := hide (WC11.out.touch t12 (fun k hk h => by have h1 := HF.out k h; have h2 := VF.out k hk; omega) (fun k hk h => (VS.out k hk).elim (fun hr => (HA.out k hr).1 h) (fun hge => by have h1 := HF.out k h; omega)))
  have X12 := hide (X11.out.of_below (t12.to_below X11.out.size (fun k h => by have h1 := HF.out k h; omega)) (Nat.le_refl _))
  have WA12 := hide hw12
  have PB1 := hide hb12
  have PF1 := hide hF12
  have RR1 := hide hR12
  have z12b := t12.size
  clear hw12 hb12 hF12 t12 hR12 y0 y1 y2 yz HU1 BG11 WA11 WB11 WC11 X11
  have HU2 := hide (upd_done gd u2c WA12.out GB.out LB.out hl260 LC2.out (by omega) HN.out PB1.out BG12.out.r3 BG12.out.s2 HOK.out.2.1)
  have y0 := BG12.out.f3.at 0 rfl
  have y1 := BG12.out.f3.at 1 rfl
  have y2 := BG12.out.f3.at 2 rfl
  have yz := BG12.out.f3.lt
  go_wp2_with fail
  refine (HU2.out).mono ?_
  rintro e w13 ⟨i2, j2, p2, R2, rfl, _, hw13, hb13, hF13, t13, hR13⟩
  generalize (toldU W H s la lb c2 N).length = m3
  have BG13 := hide (BG12.out.touch t13 (fun k hk h => by have h1 := HF.out k ((PF1.out k).1 h); omega))
  have WB13 := hide (WB12.out.touch t13 (fun k hk h => by have h1 := HF.out k ((PF1.out k).1 h); have h2 := QF.out k hk; omega) (fun k hk h => (QS.out k hk).1.elim (fun hr => (HA.out k hr).1 ((PF1.out k).1 h)) (fun hge => by have h1 := HF.out k ((PF1.out k).1 h); omega)))
  have WC13 := hide (WC12.out.touch t13 (fun k hk h => by have h1 := HF.out k ((PF1.out k).1 h); have h2 := VF.out k hk; omega) (fun k hk h => (VS.out k hk).elim (fun hr => (HA.out k hr).1 ((PF1.out k).1 h)) (fun hge => by have h1 := HF.out k ((PF1.out k).1 h); omega)))
  have X13 := hide (X12.out.of_below (t13.to_below X12.out.size (fun k h => by have h1 := HF.out k ((PF1.out k).1 h); omega)) (Nat.le_refl _))
  have WA13 := hide hw13
  have PB2 := hide (hb13.trans PB1.out)
  have PF2 := hide (fun k => (hF13 k).trans (PF1.out k))
  have RR2 := hide (show ∀ k, R2 k → R k ∨ w11.heap.size ≤ k from fun k hk => (hR13 k hk).elim (RR1.out k) (fun h => .inr (by omega)))
  have z13 := t13.size
  clear hw13 hb13 hF13 t13 hR13 y0 y1 y2 yz HU2 BG12 WA12 WB12 WC12 X12 PB1 PF1 RR1
  have HU3 := hide (upd_done gd u3c WC13.out GB.out LB.out hl260 LC3.out (by omega) HN.out rfl BG13.out.r3 BG13.out.s3 HOK.out.2.2.1)
  have y0 := BG13.out.f3.at 0 rfl
  have y1 := BG13.out.f3.at 1 rfl
  have y2 := BG13.out.f3.at 2 rfl
  have yz := BG13.out.f3.lt
  go_wp2_with fail
  refine (HU3.out).mono ?_
  rintro e w14 ⟨i3, j3, v1, V1, rfl, _, hw14, hb14, hF14, t14, hR14⟩
  generalize (toldU W H s l lb (c1 ++ c2) N).length = m4
  have BG14 := hide (BG13.out.touch t14 (fun k hk h => by have h1 := VF.out k h; omega))
  have WB14 := hide (WB13.out.touch t14 (fun k hk h => by have h1 := VF.out k h; have h2 := QF.out k hk; omega) (fun k hk h => by have h1 := VF.out k h; have h2 := (QS.out k hk).2; omega))
  have WA14 := hide (WA13.out.touch t14 (fun k hk h => by have h1 := HF.out k ((PF2.out k).1 hk); have h2 := VF.out k h; omega) (fun k hk h => (RR2.out k hk).elim (fun hr => by have h1 := (HA.out k hr).2; have h2 := VF.out k h; omega) (fun hge => by have h2 := VF.out k h; omega)))
  have X14 := hide (X13.out.of_below (t14.to_below X13.out.size (fun k h => by have h1 := VF.out k h; omega)) (Nat.le_refl _))
  have WC14 := hide hw14
  have VB1 := hide hb14
  have VF1 := hide hF14
  have VR1 := hide (show ∀ k, V1 k → R k ∨ w10.heap.size ≤ k from fun k hk => (hR14 k hk).elim (VS.out k) (fun h => .inr (by omega)))
  have z14 := t14.size
  have HSm : Hid (∀ w', Ext w14 w' → Calls Tryz.prog 23 #[.pointer (some ⟨p.b, 0, none⟩), .pointer (some ⟨v.b, 0, none⟩)] w' fun e w'' => e = .returned (.bool true) ∧ Ext w' w'') := hide (fun w' x => by
    have h := rdSame_any (WA14.out.ext x) (WC14.out.ext x) (HGS.out lb GB.out (LB.out.trans LN.out.symm))
    rw [PB2.out, VB1.out] at h
    simpa using h)
  clear hw14 hb14 hF14 t14 hR14 y0 y1 y2 yz HU3 BG13 WA13 WB13 WC13 X13
  go_wp2_with fail
  refine (HSm.out _ (Ext.refl _)).mono ?_
  rintro e w15 ⟨rfl, x15⟩
  have z15 := x15.size
  have BG15 := hide (BG14.out.ext x15)
  have WA15 := hide (WA14.out.ext x15)
  have WB15 := hide (WB14.out.ext x15)
  have WC15 := hide (WC14.out.ext x15)
  have X15 := hide (X14.out.trans x15)
  clear x15 BG14 WA14 WB14 WC14 X14 HSm
  have HU4 := hide (upd_done gd u3c WA15.out GB.out LB.out hl260 LC3.out (by omega) HN.out PB2.out BG15.out.r3 BG15.out.s3 HOK.out.2.2.2.1)
  have y0 := BG15.out.f3.at 0 rfl
  have y1 := BG15.out.f3.at 1 rfl
  have y2 := BG15.out.f3.at 2 rfl
  have yz := BG15.out.f3.lt
  go_wp2_with fail
  refine (HU4.out).mono ?_
  rintro e w16 ⟨ia, ic, p3, R3, rfl, o16, hw16, hb16, hF16, t16, hR16⟩
  have TL := hide (told_len W H s lb (c1 ++ c2) N)
  have TA := hide (fun (k : Nat) (hk : k < N) (hp : namedC W s (c1 ++ c2) k = true) => told_at (W := W) (H := H) (s := s) (l := lb) (cs := c1 ++ c2) hk hp)
  obtain ⟨ids, hids⟩ : ∃ z, toldU W H s lb lb (c1 ++ c2) N = z := ⟨_, rfl⟩
  rw [hids] at o16 TL TA ⊢
  obtain ⟨mm, hmm⟩ : ∃ z, ids.length = z := ⟨_, rfl⟩
  have LI := hide hmm
  rw [hmm] at o16 TL ⊢
  have BG16 := hide (BG15.out.touch t16 (fun k hk h => by have h1 := HF.out k ((PF2.out k).1 h); omega))
  have WB16 := hide (WB15.out.touch t16 (fun k hk h => by have h1 := HF.out k ((PF2.out k).1 h); have h2 := QF.out k hk; omega) (fun k hk h => (QS.out k hk).1.elim (fun hr => (HA.out k hr).1 ((PF2.out k).1 h)) (fun hge => by have h1 := HF.out k ((PF2.out k).1 h); omega)))
  have WC16 := hide (WC15.out.touch t16 (fun k hk h => by have h1 := HF.out k ((PF2.out k).1 h); have h2 := VF.out k ((VF1.out k).1 hk); omega) (fun k hk h => (VR1.out k hk).elim (fun hr => (HA.out k hr).1 ((PF2.out k).1 h)) (fun hge => by have h1 := HF.out k ((PF2.out k).1 h); omega)))
  have X16 := hide (X15.out.of_below (t16.to_below X15.out.size (fun k h => by have h1 := HF.out k ((PF2.out k).1 h); omega)) (Nat.le_refl _))
  have WA16 := hide hw16
  have PB3 := hide (hb16.trans PB2.out)
  have PF3 := hide (fun k => (hF16 k).trans (PF2.out k))
  have O16 := hide o16
  have z16 := t16.size
  have HSm : Hid (∀ w', Ext w16 w' → Calls Tryz.prog 23 #[.pointer (some ⟨p.b, 0, none⟩), .pointer (some ⟨v.b, 0, none⟩)] w' fun e w'' => e = .returned (.bool true) ∧ Ext w' w'') := hide (fun w' x => by
    have h := rdSame_any (WA16.out.ext x) (WC16.out.ext x) (HGS.out lb GB.out (LB.out.trans LN.out.symm))
    rw [PB3.out, VB1.out] at h
    simpa using h)
  clear hw16 hb16 hF16 t16 hR16 y0 y1 y2 yz HU4 BG15 WA15 WB15 WC15 X15 PB2 PF2 RR2 hids hmm o16
  go_wp2_with fail
  refine (HSm.out _ (Ext.refl _)).mono ?_
  rintro e w17 ⟨rfl, x17⟩
  have z17 := x17.size
  have BG17 := hide (BG16.out.ext x17)
  have WA17 := hide (WA16.out.ext x17)
  have WB17 := hide (WB16.out.ext x17)
  have X17 := hide (X16.out.trans x17)
  have O17 := hide (O16.out.ext x17)
  clear x17 BG16 WA16 WB16 WC16 X16 O16 HSm
  have HP : Hid (Calls Tryz.prog 30 #[.pointer (some ⟨p.b, 0, none⟩)] w17 fun e w'' => e = .returned (.agg #[.int .i64 W, .int .i64 H, .int .i64 s]) ∧ Ext w17 w'') := hide (by
    obtain ⟨G, T, h1, _⟩ := WA17.out
    have h := rdParts_any h1
    rw [PB3.out] at h
    exact h)
  go_wp2_with fail
  refine (HP.out).mono ?_
  rintro e w18 ⟨rfl, x18⟩
  clear HP
  go_upto_region 22 with (fail)
  obtain ⟨wp, hwp⟩ : ∃ z, z = w18.alloc (.cells #[.int .i64 W, .int .i64 H, .int .i64 s] 63) := ⟨_, rfl⟩
  have xp : Ext w18 wp := by rw [hwp]; exact (Ext.refl _).alloc _
  have PT := hide (show Blk wp w18.heap.size 63 #[.int .i64 W, .int .i64 H, .int .i64 s] by rw [hwp]; exact Blk.new_ rfl)
  have XP := hide (x18.trans xp)
  have zp : w18.heap.size < wp.heap.size := PT.out.lt
  have z18 := x18.size
  rw [← hwp]
  obtain ⟨pb, hpb⟩ : ∃ z, w18.heap.size = z := ⟨_, rfl⟩
  rw [hpb] at PT zp ⊢
  clear hwp xp x18 hpb
  have BGp := hide (BG17.out.ext XP.out)
  have WAp := hide (WA17.out.ext XP.out)
  have WBp := hide (WB17.out.ext XP.out)
  have Xp := hide (X17.out.trans XP.out)
  have Op := hide (O17.out.ext XP.out)
  clear BG17 WA17 WB17 X17 O17 XP
  go_wp2_with fail
  go_loopw [25, 26] (fun tv iv wr => ∃ k : Nat, k ≤ N ∧ iv = .int .i64 (k : Int) ∧ tv = .int .i64 (tn (namedC W s (c1 ++ c2)) k : Int) ∧ Ext wp wr) (fun _ iv _ => N - (intOf iv).toNat)
  case atStart => exact ⟨0, Nat.zero_le _, rfl, rfl, Ext.refl _⟩
  case round =>
    obtain ⟨k, hk, rfl, rfl, hx⟩ := hrel
    have XR := hide hx
    have zr := hx.size
    have PR := hide (PT.out.ext hx)
    have htn := tn_le (namedC W s (c1 ++ c2)) k
    clear hx
    have y0 := PR.out.at 0 rfl; have y1 := PR.out.at 1 rfl; have y2 := PR.out.at 2 rfl; have yz := PR.out.lt
    by_cases hlt : k < N
    · have jk : (k : Int) < (N : Int) := by omega
      have j3 : (k : Int) < 300 := by omega
      go_wp2_with fail
      refine (count_yes W H s _ HG.out.right).mono ?_
      rintro e w20 ⟨rfl, x20⟩
      rw [HN.out]
      have X20 := hide (XR.out.trans x20)
      have z20 := x20.size
      have P20 := hide (PR.out.ext x20)
      clear x20 y0 y1 y2 yz
      go_wp2_with fail
      go_loopw [27, 28] (fun nv jv wy => ∃ j : Nat, j ≤ k3 ∧ jv = .int .i64 (j : Int) ∧ nv = .bool (namedC W s ((c1 ++ c2).take j) k) ∧ Ext w20 wy) (fun _ jv _ => k3 - (intOf jv).toNat)
      case atStart => exact ⟨0, Nat.zero_le _, rfl, rfl, Ext.refl _⟩
      case round =>
        obtain ⟨j, hj, rfl, rfl, hx⟩ := hrel
        have XY := hide hx
        have zy := hx.size
        clear hx
        by_cases hlj : j < k3
        · have hjl : j < (c1 ++ c2).length := by rw [LC3.out]; exact hlj
          obtain ⟨cb, co, rfl, hcb, hcc⟩ := BGp.out.s3 (by omega)
          obtain ⟨q0, q1⟩ := hcc j hjl
          have d0 := ((X20.out.trans XY.out).cell (p := ⟨cb, co + j * 2, none⟩) hcb).trans q0
          have d1 := ((X20.out.trans XY.out).cell (p := ⟨cb, co + j * 2 + 1, none⟩) hcb).trans q1
          have hbw : cb < wr.heap.size := by omega
          obtain ⟨cc, hcce⟩ : ∃ z, (c1 ++ c2)[j] = z := ⟨_, rfl⟩
          have HTK := hide (show (c1 ++ c2).take (j + 1) = (c1 ++ c2).take j ++ [cc] by rw [List.take_add_one, List.getElem?_eq_getElem hjl, hcce]; rfl)
          have hin := List.all_eq_true.1 HIN.out cc (by rw [← hcce]; exact List.getElem_mem hjl)
          rw [hcce] at d0 d1
          have HOF := hide (fun w' => of_yes W H s cc.1 cc.2 w' HG.out.right hin)
          have HID := hide (idC_int HG.out.right hin)
          have PY := hide (P20.out.ext XY.out)
          have y0 := PY.out.at 0 rfl; have y1 := PY.out.at 1 rfl; have y2 := PY.out.at 2 rfl; have yz := PY.out.lt
          have jj : (j : Int) < (k3 : Int) := by omega
          clear q0 q1 hcc hjl hcce hin
          go_wp2_with fail
          refine seqH_start (S := (fun W => (∀ b o, b < wr.heap.size → W.cell? ⟨b, o, none⟩ = wr.cell? ⟨b, o, none⟩) ∧ Ext wr W)) [(0, true), (1, true), (2, true), (3, true), (4, true), (5, false), (6, true), (7, true), (8, true), (9, true), (10, true)] (by kernel_rfl) (by kernel_rfl) (by kernel_rfl) (by decide) (fun _ _ d _ _ h => by cases d <;> exact h) (by first | with_reducible exact pr_start _ | exact pr_of (by (with_reducible (repeat' (first | exact Ext.refl _ | assumption | refine Ext.drew ?_ | refine Ext.drewN ?_ _ | refine Ext.alloc ?_ _ | refine Ext.setCell ?_ ?_ _ | refine Ext.trans ?_ (by assumption)))); all_goals (first | (simp; done) | (simp; omega)))) (fun hHeld => ?_)
          iterate 5 (apply SeqH.free; (· (simp only [List.getElem?_toArray, List.getElem?_cons_succ, List.getElem?_cons_zero]; rfl)); (· first | exact Or.inr ⟨by rfl, rfl⟩ | (refine Or.inl ⟨by rfl, ?_⟩; intro w hSw; (try dsimp only at hSw); go_simp; try with_reducible rfl)); try simp only [Act.put, List.setIfInBounds_toArray, List.set_cons_zero, List.set_cons_succ])
          (apply SeqH.step; (· (simp only [List.getElem?_toArray, List.getElem?_cons_succ, List.getElem?_cons_zero]; rfl)); intro K hK; go_simp; refine (HOF.out _).mono ?_; rintro e w21 ⟨rfl, hb21⟩; go_wp2_with fail; refine hK.out _ _ (pr_of (by (with_reducible (repeat' (first | exact Ext.refl _ | assumption | refine Ext.drew ?_ | refine Ext.drewN ?_ _ | refine Ext.alloc ?_ _ | refine Ext.setCell ?_ ?_ _ | refine Ext.trans ?_ (by assumption)))); all_goals (first | (simp; done) | (simp; omega)))) (fun hHeld => ?_); clear hK K; try simp only [Act.put, List.setIfInBounds_toArray, List.set_cons_zero, List.set_cons_succ])
          iterate 5 (apply SeqH.free; (· (simp only [List.getElem?_toArray, List.getElem?_cons_succ, List.getElem?_cons_zero]; rfl)); (· first | exact Or.inr ⟨by rfl, rfl⟩ | (refine Or.inl ⟨by rfl, ?_⟩; intro w hSw; (try dsimp only at hSw); go_simp; try with_reducible rfl)); try simp only [Act.put, List.setIfInBounds_toArray, List.set_cons_zero, List.set_cons_succ])
          refine SeqH.done ?_
          have XE := hide hHeld.2
          clear hHeld
          rw [← HID.out]
          generalize hnb : namedC W s ((c1 ++ c2).take j) k = nb
          have HNB := hide hnb
          clear hnb
          cases nb
          · by_cases hii : idC W s cc = k
            · have hd : ((idC W s cc : Nat) : Int) = (k : Int) := by omega
              have hd' : decide (((idC W s cc : Nat) : Int) = (k : Int)) = true := by simpa using hd
              rw [hd]
              go_wp2_with fail
              go_roundw
              case rel => exact ⟨j + 1, by omega, by go_num, by rw [HTK.out, namedC_snoc, HNB.out]; simp [hii], XY.out.trans XE.out⟩
              case measure => simp [intOf]; omega
            · have hd : ¬ ((idC W s cc : Nat) : Int) = (k : Int) := by omega
              have hd' : decide (((idC W s cc : Nat) : Int) = (k : Int)) = false := by simpa using hd
              go_wp2_with fail
              go_roundw
              case rel => exact ⟨j + 1, by omega, by go_num, by rw [HTK.out, namedC_snoc, HNB.out, show (idC W s cc == k) = false by simpa using hii]; simp [hd], XY.out.trans XE.out⟩
              case measure => simp [intOf]; omega
          · go_wp2_with fail
            go_roundw
            case rel => exact ⟨j + 1, by omega, by go_num, by rw [HTK.out, namedC_snoc, HNB.out]; simp, XY.out.trans XE.out⟩
            case measure => simp [intOf]; omega
        · obtain rfl : k3 = j := by omega
          have HTK : Hid ((c1 ++ c2).take k3 = c1 ++ c2) := hide (List.take_of_length_le (by rw [LC3.out]; exact Nat.le_refl _))
          rw [HTK.out]
          have HTS := hide (tn_succ (namedC W s (c1 ++ c2)) k)
          cases hp : namedC W s (c1 ++ c2) k
          · rw [hp] at HTS
            clear hp
            go_wp2_with fail
            go_roundw
            case rel => exact ⟨k + 1, by omega, by go_num, by rw [HTS.out]; simp, X20.out.trans XY.out⟩
            case measure => simp [intOf]; omega
          · have hat := TA.out k hlt hp
            have hlt2 := (List.getElem?_eq_some_iff.1 hat).1
            rw [hp] at HTS
            have Oy := hide (Op.out.ext (X20.out.trans XY.out))
            obtain ⟨ib, ioff, rfl, hib, hic⟩ : ∃ b off, ia = some ⟨b, off, none⟩ ∧ b < wr.heap.size ∧ IntsAt wr b off ids := by
              rcases Oy.out.reads with ⟨hv, h1⟩ | ⟨b, off, cap, hv, hb, hc⟩
              · rw [h1] at hlt2; simp at hlt2
              · injection hv with e1 e2 e3
                subst e1
                have h2 := Oy.out.reads
                rw [← LI.out] at h2
                exact ⟨b, off, rfl, Reads.ints h2⟩
            have d0 := hic _ hlt2
            rw [(List.getElem?_eq_some_iff.1 hat).2] at d0
            rw [LI.out] at hlt2
            generalize tn (namedC W s (c1 ++ c2)) k = tk at *
            have j1 : (tk : Int) < (mm : Int) := by omega
            have j2 : decide ((mm : Int) ≤ (tk : Int)) = false := decide_eq_false (by omega)
            have j4 : decide (mm ≤ tk) = false := decide_eq_false (by omega)
            clear hp hat hic
            go_wp2_with fail
            go_roundw
            case rel => exact ⟨k + 1, by omega, by go_num, by rw [HTS.out]; go_num, X20.out.trans XY.out⟩
            case measure => simp [intOf]; omega
    · obtain rfl : N = k := by omega
      go_wp2_with fail
      refine (count_yes W H s _ HG.out.right).mono ?_
      rintro e w20 ⟨rfl, x20⟩
      rw [HN.out]
      have X20 := hide (XR.out.trans x20)
      have BG20 := hide (BGp.out.ext X20.out)
      have WA20 := hide (WAp.out.ext X20.out)
      have WB20 := hide (WBp.out.ext X20.out)
      have XW := hide (Xp.out.trans X20.out)
      have z20 := x20.size
      clear x20 y0 y1 y2 yz
      have HU5 := hide (upd_done c u3c WA20.out HG.out LN.out hl260 LC3.out (by omega) HN.out PB3.out BG20.out.r1 BG20.out.s3 HOK.out.2.2.2.2)
      have y0 := BG20.out.f1.at 0 rfl
      have y1 := BG20.out.f1.at 1 rfl
      have y2 := BG20.out.f1.at 2 rfl
      have yz := BG20.out.f1.lt
      rw [← TL.out]
      go_wp2_with fail
      refine (HU5.out).mono ?_
      rintro e w21 ⟨i5, j5, p4, R4, rfl, _, hw21, hb21, hF21, t21, hR21⟩
      generalize (toldU W H s lb l (c1 ++ c2) N).length = m5
      have WB21 := hide (WB20.out.touch t21 (fun k hk h => by have h1 := HF.out k ((PF3.out k).1 h); have h2 := QF.out k hk; omega) (fun k hk h => (QS.out k hk).1.elim (fun hr => (HA.out k hr).1 ((PF3.out k).1 h)) (fun hge => by have h1 := HF.out k ((PF3.out k).1 h); omega)))
      have XW2 := hide (XW.out.of_below (t21.to_below XW.out.size (fun k h => by have h1 := HF.out k ((PF3.out k).1 h); omega)) (Nat.le_refl _))
      have WA21 := hide hw21
      have HSm : Hid (∀ w', Ext w21 w' → Calls Tryz.prog 23 #[.pointer (some ⟨p.b, 0, none⟩), .pointer (some ⟨q.b, 0, none⟩)] w' fun e w'' => e = .returned (.bool true) ∧ Ext w' w'') := hide (fun w' x => by
        have h := rdSame_any (WA21.out.ext x) (WB21.out.ext x) (HGS.out l HG.out rfl)
        rw [hb21.trans PB3.out] at h
        simpa using h)
      clear hw21 hb21 hF21 t21 hR21 y0 y1 y2 yz HU5 BG20 WA20 WB20 XW
      go_wp2_with fail
      refine (HSm.out _ (Ext.refl _)).mono ?_
      rintro e w22 ⟨rfl, x22⟩
      go_wp2_with fail
      refine (awake14_any _).mono ?_
      rintro e w23 ⟨rfl, x23⟩
      go_wp2_with fail
      go_ret
      exact ⟨rfl, (XW2.out.trans x22).trans x23⟩
end Go.Proofs.YtkioohhjjdlhiaaGreat
