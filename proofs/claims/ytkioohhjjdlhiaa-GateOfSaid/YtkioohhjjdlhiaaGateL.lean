/- gate.Cells. -/
import Derived.Test.YtkioohhjjdlhiaaCelP
import Derived.Test.YtkioohhjjdlhiaaSortC
import Derived.Test.YtkioohhjjdlhiaaCompC
import Derived.Test.YtkioohhjjdlhiaaGateS
import Derived.Deep.CutBlock
set_option linter.all false
set_option linter.unusedVariables false
set_option linter.unusedSimpArgs false
namespace Go.Proofs.Ytkioohhjjdlhiaa
open Go.RowKit

def RetCellsE (w : World) (L : List Cell) (err : Int) (e : Ending) (w' : World) : Prop := ∃ v, e = .returned (.tuple #[v, .int .i64 err]) ∧ Ext w w' ∧ Own cellE w' w.heap.size 52 v L

theorem gtCells_no (W H s id : Int) (v : Value) (w : World) (h : (hasE W H s [id] != 0) = true) :
    Calls Try.prog 10 #[.agg #[.int .i64 W, .int .i64 H, .int .i64 s], v, .int .i64 id] w fun e w' => e = .returned (.tuple #[.slice none 0 0, .int .i64 (hasE W H s [id])]) ∧ Ext w w' := by
  go_enter Try.func10, Try.ntmps10
  go_wp2_with (go_at_call 23; refine (Box_no W H s id _ h).mono ?_; rintro e w3 ⟨rfl, hb3⟩; have X3 := hide (show Ext w w3 from Ext.trans (by (with_reducible (repeat' (first | exact Ext.refl _ | assumption | refine Ext.drew ?_ | refine Ext.drewN ?_ _ | refine Ext.alloc ?_ _ | refine Ext.setCell ?_ ?_ _ | refine Ext.trans ?_ (by assumption)))); all_goals (first | (simp; done) | (simp; omega))) hb3); clear hb3)
  go_ret2
  exact ⟨rfl, X3.out.trans (by (with_reducible (repeat' (first | exact Ext.refl _ | assumption | refine Ext.drew ?_ | refine Ext.drewN ?_ _ | refine Ext.alloc ?_ _ | refine Ext.setCell ?_ ?_ _ | refine Ext.trans ?_ (by assumption)))); all_goals (first | (simp; done) | (simp; omega)))⟩

/-- The cells that were gathered of the first gates. -/
def Gath (W H s id : Int) (L : List (Cell × Cell)) (k : Nat) (R : List Cell) : Prop := R.length ≤ 2 * k ∧ ∀ c, c ∈ R ↔ inK W H s id c ∧ gIn (L.take k) c = true
theorem gIn_take {L : List (Cell × Cell)} {k : Nat} {g : Cell × Cell} (hg : L[k]? = some g) (c : Cell) : gIn (L.take (k + 1)) c = (gIn (L.take k) c || (cellB g.1 c || cellB g.2 c)) := by
  unfold gIn
  rw [List.take_add_one, hg, List.any_append]
  simp
theorem Gath.skip {W H s id : Int} {L : List (Cell × Cell)} {k : Nat} {R : List Cell} {g : Cell × Cell} (h : Gath W H s id L k R) (hk : 0 < k) (hg : L[k]? = some g) (hp : L[k - 1]? = some g) : Gath W H s id L (k + 1) R := by
  refine ⟨by have := h.1; omega, fun c => ?_⟩
  rw [h.2 c, gIn_take hg]
  refine and_congr_right (fun _ => ?_)
  rw [Bool.or_eq_true]
  constructor
  · exact .inl
  · rintro (h1 | h1)
    · exact h1
    · rw [gIn_iff]
      refine ⟨g, List.mem_of_getElem? (i := k - 1) (by rw [List.getElem?_take_of_lt (by omega)]; exact hp), ?_⟩
      simpa [cellB_eq] using h1
/-- .. and of a part of one gate more. -/
def GathJ (W H s id : Int) (L : List (Cell × Cell)) (k : Nat) (A B : Cell) (j : Nat) (R : List Cell) : Prop := R.length ≤ 2 * k + j ∧ ∀ c, c ∈ R ↔ inK W H s id c ∧ (gIn (L.take k) c = true ∨ c ∈ [A, B].take j)
theorem GathJ.start {W H s id : Int} {L : List (Cell × Cell)} {k : Nat} {A B : Cell} {R : List Cell} (h : Gath W H s id L k R) : GathJ W H s id L k A B 0 R := ⟨h.1, fun c => by rw [h.2 c]; simp⟩
theorem GathJ.no {W H s id : Int} {L : List (Cell × Cell)} {k : Nat} {A B : Cell} {j : Nat} {R : List Cell} {q : Cell} (h : GathJ W H s id L k A B j R) (hq : [A, B][j]? = some q) (hn : ¬ inK W H s id q) : GathJ W H s id L k A B (j + 1) R := by
  refine ⟨by have := h.1; omega, fun c => ?_⟩
  rw [h.2 c, List.take_add_one, hq, List.mem_append]
  refine and_congr_right (fun hk => ?_)
  constructor
  · rintro (h1 | h1)
    · exact .inl h1
    · exact .inr (.inl h1)
  · rintro (h1 | h1 | h1)
    · exact .inl h1
    · exact .inr h1
    · simp at h1; subst h1; exact absurd hk hn
theorem GathJ.yes {W H s id : Int} {L : List (Cell × Cell)} {k : Nat} {A B : Cell} {j : Nat} {R : List Cell} {q : Cell} (h : GathJ W H s id L k A B j R) (hq : [A, B][j]? = some q) (hn : inK W H s id q) : GathJ W H s id L k A B (j + 1) (R ++ [q]) := by
  refine ⟨by have := h.1; simp; omega, fun c => ?_⟩
  rw [List.mem_append, h.2 c, List.take_add_one, hq, List.mem_append]
  constructor
  · rintro (⟨h1, h2⟩ | h1)
    · exact ⟨h1, h2.imp (fun x => x) .inl⟩
    · simp at h1; subst h1; exact ⟨hn, .inr (.inr (by simp))⟩
  · rintro ⟨h1, h2 | h2 | h2⟩
    · exact .inl ⟨h1, .inl h2⟩
    · exact .inl ⟨h1, .inr h2⟩
    · exact .inr (by simpa using h2)
theorem GathJ.fin {W H s id : Int} {L : List (Cell × Cell)} {k : Nat} {A B : Cell} {R : List Cell} (h : GathJ W H s id L k A B 2 R) (hg : L[k]? = some (A, B)) : Gath W H s id L (k + 1) R := by
  refine ⟨by have := h.1; omega, fun c => ?_⟩
  rw [h.2 c, gIn_take hg]
  refine and_congr_right (fun _ => ?_)
  simp only [Bool.or_eq_true, cellB_eq, decide_eq_true_eq]
  rw [show [A, B].take 2 = [A, B] from rfl, List.mem_cons, List.mem_singleton, @eq_comm _ c A, @eq_comm _ c B]

set_option maxRecDepth 100000 in
set_option maxHeartbeats 2000000 in
theorem gtCells_yes (W H s id : Int) (a : Option Addr) (c : Nat) (L : List (Cell × Cell)) (w : World) (hr : rightB W H s = true) (h0 : 0 ≤ id) (hid : id < cnt W H s) (hl : L.length ≤ 50000) (hL : 0 < L.length → Reads pairE w (.slice a L.length c) L) :
    Calls Try.prog 10 #[.agg #[.int .i64 W, .int .i64 H, .int .i64 s], .slice a L.length c, .int .i64 id] w (RetCellsE w (cellsL W H s id L) 0) := by
  have HM := hide (fun c => cellsL_mem (L := L) (c := c) hr h0 hid)
  have HA : Hid (0 < L.length → ∃ b off c', Value.slice a L.length c = .slice (some ⟨b, off, none⟩) L.length c' ∧ b < w.heap.size ∧ PairsAt w b off L) := hide (fun hp => by
    rcases hL hp with ⟨_, rfl⟩ | ⟨b, off, cap, hv, hb, hc⟩
    · simp at hp
    · exact ⟨b, off, cap, hv, hb, (Reads.pairs (.inr ⟨b, off, cap, rfl, hb, hc⟩)).2⟩)
  clear hL
  go_enter Try.func10, Try.ntmps10
  go_wp2_with fail
  have BP : Hid (Blk (w.alloc (.cells #[.int .i64 W, .int .i64 H, .int .i64 s] 28)) w.heap.size 28 #[.int .i64 W, .int .i64 H, .int .i64 s]) := hide (Blk.new_ rfl)
  have X1 : Hid (Ext w (w.alloc (.cells #[.int .i64 W, .int .i64 H, .int .i64 s] 28))) := hide (by (with_reducible (repeat' (first | exact Ext.refl _ | assumption | refine Ext.drew ?_ | refine Ext.drewN ?_ _ | refine Ext.alloc ?_ _ | refine Ext.setCell ?_ ?_ _ | refine Ext.trans ?_ (by assumption)))); all_goals (first | (simp; done) | (simp; omega)))
  obtain ⟨w1, hw1⟩ : ∃ w1, w.alloc (.cells #[.int .i64 W, .int .i64 H, .int .i64 s] 28) = w1 := ⟨_, rfl⟩
  obtain ⟨f, hf⟩ : ∃ f, w.heap.size = f := ⟨_, rfl⟩
  rw [hw1] at BP X1 ⊢
  rw [hf] at BP ⊢
  clear hw1
  have HFW := hide hf
  clear hf
  refine (Box_yes W H s id _ hr h0 hid).mono ?_
  rintro e w2 ⟨rfl, x2⟩
  obtain ⟨bq, hbq⟩ : ∃ bq, min s (W - boxX W s id) = bq := ⟨_, rfl⟩
  obtain ⟨br, hbr⟩ : ∃ br, min s (H - boxY W s id) = br := ⟨_, rfl⟩
  obtain ⟨bs, hbs⟩ : ∃ bs, boxX W s id = bs := ⟨_, rfl⟩
  obtain ⟨bt, hbt⟩ : ∃ bt, boxY W s id = bt := ⟨_, rfl⟩
  rw [hbq, hbr, hbs, hbt]
  clear hbq hbr hbs hbt
  have X2 := hide (show Ext w1 w2 from x2)
  clear x2
  go_wp2_with fail
  have X3 := hide (show Ext w1 (w2.alloc (.cells #[.int .i64 bs, .int .i64 bt, .int .i64 bq, .int .i64 br] 47)) from X2.out.trans ((Ext.refl _).alloc _))
  go_loopw [10, 28] (fun o i wr => ∃ (k : Nat) (R : List Cell), i = .int .i64 (k : Int) ∧ k ≤ L.length ∧ Gath W H s id L k R ∧ Ext w1 wr ∧ Own cellE wr w1.heap.size 52 o R) (fun _ i _ => L.length - (intOf i).toNat)
  case atStart => exact ⟨0, [], rfl, Nat.zero_le _, ⟨by simp, fun c => by simp [gIn]⟩, X3.out, Own.nil _ _ _ _⟩
  case round =>
    obtain ⟨k, R, rfl, hk, hG, hx, ho⟩ := hrel
    have HG := hide hG
    have HX := hide hx
    have HO := hide ho
    have hgl := hG.1
    have hz := hx.size
    obtain ⟨ao, co, rfl⟩ := ho.slice
    clear hG hx ho X3 X2
    by_cases hlt : k < L.length
    · obtain ⟨b, off, c', hv, hb, hP⟩ := HA.out (by omega)
      simp only [Value.slice.injEq] at hv
      obtain ⟨rfl, _, rfl⟩ := hv
      have hg : L[k]? = some L[k] := List.getElem?_eq_getElem hlt
      obtain ⟨d0, d1, d2, d3⟩ := hP k hlt
      have HP := hide (fun (j : Nat) (hj : j < L.length) => hP j hj)
      have e0 := ((X1.out.trans HX.out).cell (p := ⟨b, off + k * 4, none⟩) hb).trans d0
      have e1 := ((X1.out.trans HX.out).cell (p := ⟨b, off + k * 4 + 1, none⟩) hb).trans d1
      have e2 := ((X1.out.trans HX.out).cell (p := ⟨b, off + k * 4 + 2, none⟩) hb).trans d2
      have e3 := ((X1.out.trans HX.out).cell (p := ⟨b, off + k * 4 + 3, none⟩) hb).trans d3
      obtain ⟨g, hgg⟩ : ∃ g, L[k] = g := ⟨_, rfl⟩
      rw [hgg] at hg e0 e1 e2 e3
      have HGK := hide hg
      obtain ⟨⟨ga, gb⟩, ⟨gc, gd⟩⟩ := g
      simp only at e0 e1 e2 e3
      clear d0 d1 d2 d3 hP hg hgg
      go_upto_region 8 with (fail)
      have B8 : Hid (Blk (wr.alloc (.cells #[.int .i64 ga, .int .i64 gb, .int .i64 gc, .int .i64 gd] 65)) wr.heap.size 65 #[.int .i64 ga, .int .i64 gb, .int .i64 gc, .int .i64 gd]) := hide (Blk.new_ rfl)
      have XB := hide (show Ext w1 (wr.alloc (.cells #[.int .i64 ga, .int .i64 gb, .int .i64 gc, .int .i64 gd] 65)) from HX.out.trans ((Ext.refl _).alloc _))
      have OB := hide (HO.out.ext (show Ext wr (wr.alloc (.cells #[.int .i64 ga, .int .i64 gb, .int .i64 gc, .int .i64 gd] 65)) from (Ext.refl _).alloc _))
      obtain ⟨wb, hwb⟩ : ∃ wb, wr.alloc (.cells #[.int .i64 ga, .int .i64 gb, .int .i64 gc, .int .i64 gd] 65) = wb := ⟨_, rfl⟩
      obtain ⟨t, ht⟩ : ∃ t, wr.heap.size = t := ⟨_, rfl⟩
      rw [hwb] at B8 XB OB ⊢
      rw [ht] at B8 ⊢
      have hzb := XB.out.size
      have hbz : b < wb.heap.size := Nat.lt_of_lt_of_le hb (X1.out.trans XB.out).size
      clear hwb ht e0 e1 e2 e3 HO HX hz
      have q0 := B8.out.at 0 rfl; have q1 := B8.out.at 1 rfl; have q2 := B8.out.at 2 rfl; have q3 := B8.out.at 3 rfl; have qz := B8.out.lt
      by_cases k0 : 0 < k
      · have hp := HP.out (k - 1) (by omega)
        have e0 := ((X1.out.trans XB.out).cell (p := ⟨b, off + (k - 1) * 4, none⟩) hb).trans hp.1
        have e1 := ((X1.out.trans XB.out).cell (p := ⟨b, off + (k - 1) * 4 + 1, none⟩) hb).trans hp.2.1
        have e2 := ((X1.out.trans XB.out).cell (p := ⟨b, off + (k - 1) * 4 + 2, none⟩) hb).trans hp.2.2.1
        have e3 := ((X1.out.trans XB.out).cell (p := ⟨b, off + (k - 1) * 4 + 3, none⟩) hb).trans hp.2.2.2
        have hpg : L[k - 1]? = some L[k - 1] := List.getElem?_eq_getElem (by omega)
        obtain ⟨p, hpp⟩ : ∃ p, L[k - 1]'(by omega) = p := ⟨_, rfl⟩
        rw [hpp] at hpg e0 e1 e2 e3
        have HPG := hide hpg
        obtain ⟨⟨pa, pb⟩, ⟨pc, pd⟩⟩ := p
        simp only at e0 e1 e2 e3
        have k1 : (1 : Int) ≤ (k : Int) := by omega
        have k2 : ((k : Int) - 1).toNat = k - 1 := by omega
        have k3 : (k : Int) - 1 < (L.length : Int) := by omega
        have k4 : (0 : Int) ≤ (k : Int) - 1 := by omega
        have hEq := fun (w : World) => eqIn_gate 9995 ga gb gc gd pa pb pc pd w
        clear hp hpg hpp
        have kw : IntKind.i64.wrap ((k : Int) - 1) = (k : Int) - 1 := IntWalk.i64_in _ (by omega)
        have HKW := hide kw
        clear kw
        cases he : (ga == pa && gb == pb && (gc == pc && gd == pd))
        · rw [he] at hEq
          go_wp2_with fail
          have kw := HKW.out
          refine seqH_start (S := (fun W => (∀ b o, b < wb.heap.size → W.cell? ⟨b, o, none⟩ = wb.cell? ⟨b, o, none⟩) ∧ Ext wb W)) [(0, true), (1, true), (2, true), (3, true), (4, true), (5, true), (6, true), (7, true), (8, true), (9, true), (10, true)] (by kernel_rfl) (by kernel_rfl) (by kernel_rfl) (by decide) (fun _ _ d _ _ h => by cases d <;> exact h) (by first | with_reducible exact pr_start _ | exact pr_of (by (with_reducible (repeat' (first | exact Ext.refl _ | assumption | refine Ext.drew ?_ | refine Ext.drewN ?_ _ | refine Ext.alloc ?_ _ | refine Ext.setCell ?_ ?_ _ | refine Ext.trans ?_ (by assumption)))); all_goals (first | (simp; done) | (simp; omega)))) (fun hHeld => ?_)
          iterate 11 (apply SeqH.free; (· (simp only [List.getElem?_toArray, List.getElem?_cons_succ, List.getElem?_cons_zero]; rfl)); (· first | exact Or.inr ⟨by rfl, rfl⟩ | (refine Or.inl ⟨by rfl, ?_⟩; intro w hSw; (try dsimp only at hSw); go_simp; try with_reducible rfl)); try simp only [Act.put, List.setIfInBounds_toArray, List.set_cons_zero, List.set_cons_succ])
          refine SeqH.done ?_
          clear kw
          have XC := hide (XB.out.drew)
          have OC := hide (OB.out.drew)
          clear hHeld hEq he e0 e1 e2 e3 k1 k2 k3 k4
          go_wp2_with fail
          have B9 : Hid (Blk ((wb.alloc (.cells #[.int .i64 ga, .int .i64 gb, .int .i64 gc, .int .i64 gd] 52)).drew) wb.heap.size 52 #[.int .i64 ga, .int .i64 gb, .int .i64 gc, .int .i64 gd]) := hide (Blk.drew (Blk.new_ rfl))
          have XD := hide (show Ext w1 ((wb.alloc (.cells #[.int .i64 ga, .int .i64 gb, .int .i64 gc, .int .i64 gd] 52)).drew) from (XB.out.alloc _).drew)
          have OD := hide (show Own cellE ((wb.alloc (.cells #[.int .i64 ga, .int .i64 gb, .int .i64 gc, .int .i64 gd] 52)).drew) w1.heap.size 52 (.slice ao R.length co) R from (OB.out.alloc _).drew)
          obtain ⟨wd, hwd⟩ : ∃ wd, (wb.alloc (.cells #[.int .i64 ga, .int .i64 gb, .int .i64 gc, .int .i64 gd] 52)).drew = wd := ⟨_, rfl⟩
          obtain ⟨y, hy⟩ : ∃ y, wb.heap.size = y := ⟨_, rfl⟩
          rw [hwd] at B9 XD OD ⊢
          rw [hy] at B9 ⊢
          have HYW := hide hy
          clear hwd hy
          go_loopw [10, 50] (fun o i wy => ∃ (j : Nat) (R' : List Cell), i = .int .i64 (j : Int) ∧ j ≤ 2 ∧ GathJ W H s id L k (ga, gb) (gc, gd) j R' ∧ Ext w1 wy ∧ Blk wy y 52 #[.int .i64 ga, .int .i64 gb, .int .i64 gc, .int .i64 gd] ∧ (∀ z, o.ownBlock = some z → z ≠ y) ∧ Own cellE wy w1.heap.size 52 o R') (fun _ i _ => 2 - (intOf i).toNat)
          case atStart => exact ⟨0, R, rfl, by omega, GathJ.start HG.out, XD.out, B9.out, (fun z hz => by have := (own_lt OB.out hz).2; rw [HYW.out] at this; omega), OD.out⟩
          case round =>
            obtain ⟨j, R', rfl, hj, hG', hx, hB9, hne, ho⟩ := hrel
            have HGJ := hide hG'
            have HXJ := hide hx
            have HB9 := hide hB9
            have HNE := hide hne
            have hy9 := hB9.lt
            have HOJ := hide ho
            have hgl' := hG'.1
            have hzj : w1.heap.size ≤ wr.heap.size := HXJ.out.size
            obtain ⟨aj, cj, rfl⟩ := ho.slice
            clear hG' ho hB9 hne
            by_cases hlt2 : j < 2
            · obtain ⟨q, hq⟩ : ∃ q, [(ga, gb), (gc, gd)][j]? = some q := ⟨_, List.getElem?_eq_getElem (by simpa using hlt2)⟩
              have hcq : wr.cell? ⟨y, j * 2, none⟩ = some (.int .i64 q.1) ∧ wr.cell? ⟨y, j * 2 + 1, none⟩ = some (.int .i64 q.2) := by
                have h9 := HB9.out
                rcases (by omega : j = 0 ∨ j = 1) with rfl | rfl
                · simp at hq; subst hq; exact ⟨h9.cell 0, h9.cell 1⟩
                · simp at hq; subst hq; exact ⟨h9.cell 2, h9.cell 3⟩
              obtain ⟨qa, qb⟩ := q
              have HQ := hide hq
              obtain ⟨c0, c1⟩ := hcq
              simp only at c0 c1
              have hji : (j : Int) < 2 := by omega
              have BPr := hide (BP.out.ext HXJ.out)
              have p0 := BPr.out.at 0 rfl; have p1 := BPr.out.at 1 rfl; have p2 := BPr.out.at 2 rfl; have pz := BPr.out.lt
              clear hq hx
              go_wp2_with fail
              by_cases hin : inB W H qa qb = true
              · refine (of_yes W H s qa qb _ hr hin).mono ?_
                rintro e w6 ⟨rfl, x6⟩
                have X6 := hide (show Ext wr w6 from Ext.trans (by (with_reducible (repeat' (first | exact Ext.refl _ | assumption | refine Ext.drew ?_ | refine Ext.drewN ?_ _ | refine Ext.alloc ?_ _ | refine Ext.setCell ?_ ?_ _ | refine Ext.trans ?_ (by assumption)))); all_goals (first | (simp; done) | (simp; omega))) x6)
                have k0' : w6.cell? ⟨wr.heap.size, 0, none⟩ = some (.int .i64 qa) := (x6.cell (p := ⟨wr.heap.size, 0, none⟩) (by simp)).trans (by simp)
                have k1' : w6.cell? ⟨wr.heap.size, 1, none⟩ = some (.int .i64 qb) := (x6.cell (p := ⟨wr.heap.size, 1, none⟩) (by simp)).trans (by simp)
                have HO6 := hide (HOJ.out.ext X6.out)
                have hz6 := X6.out.size
                clear x6
                by_cases hof : ofN W s qa qb = id
                · have HN := hide (HGJ.out.yes HQ.out ⟨hin, hof⟩)
                  rw [hof]
                  clear hof c0 c1 p0 p1 p2 pz
                  go_wp2_with (at_builtin; refine wpList_app_at cellE T_cellsG rfl _ _ rfl w1.heap.size _ _ R' rfl HO6.out (qa, qb) _ _ rfl _ rfl rfl (by omega) (by omega) (by omega) ?_; intro g9 c9 w9 o9 t9 l9; have O9 := hide o9; have T9 := hide (And.intro t9 l9); clear o9 t9 l9)
                  go_roundw
                  case rel => exact ⟨j + 1, R' ++ [(qa, qb)], by go_num, by omega, HN.out, (HXJ.out.trans X6.out).of_below (T9.out.1.to_below (by omega) (fun z hz => (own_lt HO6.out hz).1)) (Nat.le_refl _), (HB9.out.ext X6.out).touch T9.out.1 (fun hz => HNE.out y hz rfl), (fun z hz => by simp only [Value.ownBlock, Option.some.injEq] at hz; subst hz; rcases T9.out.2 with h | h; exact HNE.out _ h; omega), O9.out⟩
                  case measure => simp [intOf]; omega
                · have HN := hide (HGJ.out.no HQ.out (fun h => hof h.2))
                  have hof' : (ofN W s qa qb == id) = false := by simpa using hof
                  generalize ofN W s qa qb = nn at *
                  clear hof c0 c1 p0 p1 p2 pz
                  go_wp2
                  go_roundw
                  case rel => exact ⟨j + 1, R', by go_num, by omega, HN.out, HXJ.out.trans X6.out, HB9.out.ext X6.out, HNE.out, HO6.out⟩
                  case measure => simp [intOf]; omega
              · refine (of_range W H s qa qb _ hr (by simpa using hin)).mono ?_
                rintro e w6 ⟨rfl, x6⟩
                have X6 := hide (show Ext wr w6 from Ext.trans (by (with_reducible (repeat' (first | exact Ext.refl _ | assumption | refine Ext.drew ?_ | refine Ext.drewN ?_ _ | refine Ext.alloc ?_ _ | refine Ext.setCell ?_ ?_ _ | refine Ext.trans ?_ (by assumption)))); all_goals (first | (simp; done) | (simp; omega))) x6)
                have HO6 := hide (HOJ.out.ext X6.out)
                have HN := hide (HGJ.out.no HQ.out (fun h => hin h.1))
                clear x6 hin c0 c1 p0 p1 p2 pz
                go_wp2
                go_roundw
                case rel => exact ⟨j + 1, R', by go_num, by omega, HN.out, HXJ.out.trans X6.out, HB9.out.ext X6.out, HNE.out, HO6.out⟩
                case measure => simp [intOf]; omega
            · obtain rfl : j = 2 := by omega
              have HN := hide (HGJ.out.fin HGK.out)
              clear hx
              go_wp2
              go_roundw
              case rel => exact ⟨k + 1, R', by go_num, by omega, HN.out, HXJ.out, HOJ.out⟩
              case measure => simp [intOf]; omega
        · rw [he] at hEq
          have hpq : L[k - 1]? = some ((ga, gb), (gc, gd)) := by
            simp only [Bool.and_eq_true, beq_iff_eq] at he
            obtain ⟨⟨rfl, rfl⟩, rfl, rfl⟩ := he
            exact HPG.out
          have HS := hide (HG.out.skip k0 HGK.out hpq)
          clear he hpq
          go_wp2_with fail
          have kw := HKW.out
          refine seqH_start (S := (fun W => (∀ b o, b < wb.heap.size → W.cell? ⟨b, o, none⟩ = wb.cell? ⟨b, o, none⟩) ∧ Ext wb W)) [(0, true), (1, true), (2, true), (3, true), (4, true), (5, true), (6, true), (7, true), (8, true), (9, true), (10, true)] (by kernel_rfl) (by kernel_rfl) (by kernel_rfl) (by decide) (fun _ _ d _ _ h => by cases d <;> exact h) (by first | with_reducible exact pr_start _ | exact pr_of (by (with_reducible (repeat' (first | exact Ext.refl _ | assumption | refine Ext.drew ?_ | refine Ext.drewN ?_ _ | refine Ext.alloc ?_ _ | refine Ext.setCell ?_ ?_ _ | refine Ext.trans ?_ (by assumption)))); all_goals (first | (simp; done) | (simp; omega)))) (fun hHeld => ?_)
          iterate 11 (apply SeqH.free; (· (simp only [List.getElem?_toArray, List.getElem?_cons_succ, List.getElem?_cons_zero]; rfl)); (· first | exact Or.inr ⟨by rfl, rfl⟩ | (refine Or.inl ⟨by rfl, ?_⟩; intro w hSw; (try dsimp only at hSw); go_simp; try with_reducible rfl)); try simp only [Act.put, List.setIfInBounds_toArray, List.set_cons_zero, List.set_cons_succ])
          refine SeqH.done ?_
          clear kw hHeld
          go_wp2
          go_roundw
          case rel => exact ⟨k + 1, R, by go_num, by omega, HS.out, XB.out.drew, OB.out.drew⟩
          case measure => simp [intOf]; omega
      · have n1 : decide (0 < k) = false := by simp; omega
        have n2 : decide ((0 : Int) < (k : Int)) = false := by simp; omega
        have n3 : k ≤ 0 := by omega
        go_wp2_with fail
        refine seqH_start (S := (fun W => (∀ b o, b < wb.heap.size → W.cell? ⟨b, o, none⟩ = wb.cell? ⟨b, o, none⟩) ∧ Ext wb W)) [(0, true), (1, true), (2, true), (3, true), (4, true), (5, true), (6, true), (7, true), (8, true), (9, true), (10, true)] (by kernel_rfl) (by kernel_rfl) (by kernel_rfl) (by decide) (fun _ _ d _ _ h => by cases d <;> exact h) (by first | with_reducible exact pr_start _ | exact pr_of (by (with_reducible (repeat' (first | exact Ext.refl _ | assumption | refine Ext.drew ?_ | refine Ext.drewN ?_ _ | refine Ext.alloc ?_ _ | refine Ext.setCell ?_ ?_ _ | refine Ext.trans ?_ (by assumption)))); all_goals (first | (simp; done) | (simp; omega)))) (fun hHeld => ?_)
        iterate 11 (apply SeqH.free; (· (simp only [List.getElem?_toArray, List.getElem?_cons_succ, List.getElem?_cons_zero]; rfl)); (· first | exact Or.inr ⟨by rfl, rfl⟩ | (refine Or.inl ⟨by rfl, ?_⟩; intro w hSw; (try dsimp only at hSw); go_simp; try with_reducible rfl)); try simp only [Act.put, List.setIfInBounds_toArray, List.set_cons_zero, List.set_cons_succ])
        refine SeqH.done ?_
        have XC := hide (XB.out.drew)
        have OC := hide (OB.out.drew)
        clear hHeld n1 n2 n3
        go_wp2_with fail
        have B9 : Hid (Blk ((wb.alloc (.cells #[.int .i64 ga, .int .i64 gb, .int .i64 gc, .int .i64 gd] 52)).drew) wb.heap.size 52 #[.int .i64 ga, .int .i64 gb, .int .i64 gc, .int .i64 gd]) := hide (Blk.drew (Blk.new_ rfl))
        have XD := hide (show Ext w1 ((wb.alloc (.cells #[.int .i64 ga, .int .i64 gb, .int .i64 gc, .int .i64 gd] 52)).drew) from (XB.out.alloc _).drew)
        have OD := hide (show Own cellE ((wb.alloc (.cells #[.int .i64 ga, .int .i64 gb, .int .i64 gc, .int .i64 gd] 52)).drew) w1.heap.size 52 (.slice ao R.length co) R from (OB.out.alloc _).drew)
        obtain ⟨wd, hwd⟩ : ∃ wd, (wb.alloc (.cells #[.int .i64 ga, .int .i64 gb, .int .i64 gc, .int .i64 gd] 52)).drew = wd := ⟨_, rfl⟩
        obtain ⟨y, hy⟩ : ∃ y, wb.heap.size = y := ⟨_, rfl⟩
        rw [hwd] at B9 XD OD ⊢
        rw [hy] at B9 ⊢
        have HYW := hide hy
        clear hwd hy
        go_loopw [10, 50] (fun o i wy => ∃ (j : Nat) (R' : List Cell), i = .int .i64 (j : Int) ∧ j ≤ 2 ∧ GathJ W H s id L k (ga, gb) (gc, gd) j R' ∧ Ext w1 wy ∧ Blk wy y 52 #[.int .i64 ga, .int .i64 gb, .int .i64 gc, .int .i64 gd] ∧ (∀ z, o.ownBlock = some z → z ≠ y) ∧ Own cellE wy w1.heap.size 52 o R') (fun _ i _ => 2 - (intOf i).toNat)
        case atStart => exact ⟨0, R, rfl, by omega, GathJ.start HG.out, XD.out, B9.out, (fun z hz => by have := (own_lt OB.out hz).2; rw [HYW.out] at this; omega), OD.out⟩
        case round =>
          obtain ⟨j, R', rfl, hj, hG', hx, hB9, hne, ho⟩ := hrel
          have HGJ := hide hG'
          have HXJ := hide hx
          have HB9 := hide hB9
          have HNE := hide hne
          have hy9 := hB9.lt
          have HOJ := hide ho
          have hgl' := hG'.1
          have hzj : w1.heap.size ≤ wr.heap.size := HXJ.out.size
          obtain ⟨aj, cj, rfl⟩ := ho.slice
          clear hG' ho hB9 hne
          by_cases hlt2 : j < 2
          · obtain ⟨q, hq⟩ : ∃ q, [(ga, gb), (gc, gd)][j]? = some q := ⟨_, List.getElem?_eq_getElem (by simpa using hlt2)⟩
            have hcq : wr.cell? ⟨y, j * 2, none⟩ = some (.int .i64 q.1) ∧ wr.cell? ⟨y, j * 2 + 1, none⟩ = some (.int .i64 q.2) := by
              have h9 := HB9.out
              rcases (by omega : j = 0 ∨ j = 1) with rfl | rfl
              · simp at hq; subst hq; exact ⟨h9.cell 0, h9.cell 1⟩
              · simp at hq; subst hq; exact ⟨h9.cell 2, h9.cell 3⟩
            obtain ⟨qa, qb⟩ := q
            have HQ := hide hq
            obtain ⟨c0, c1⟩ := hcq
            simp only at c0 c1
            have hji : (j : Int) < 2 := by omega
            have BPr := hide (BP.out.ext HXJ.out)
            have p0 := BPr.out.at 0 rfl; have p1 := BPr.out.at 1 rfl; have p2 := BPr.out.at 2 rfl; have pz := BPr.out.lt
            clear hq hx
            go_wp2_with fail
            by_cases hin : inB W H qa qb = true
            · refine (of_yes W H s qa qb _ hr hin).mono ?_
              rintro e w6 ⟨rfl, x6⟩
              have X6 := hide (show Ext wr w6 from Ext.trans (by (with_reducible (repeat' (first | exact Ext.refl _ | assumption | refine Ext.drew ?_ | refine Ext.drewN ?_ _ | refine Ext.alloc ?_ _ | refine Ext.setCell ?_ ?_ _ | refine Ext.trans ?_ (by assumption)))); all_goals (first | (simp; done) | (simp; omega))) x6)
              have k0' : w6.cell? ⟨wr.heap.size, 0, none⟩ = some (.int .i64 qa) := (x6.cell (p := ⟨wr.heap.size, 0, none⟩) (by simp)).trans (by simp)
              have k1' : w6.cell? ⟨wr.heap.size, 1, none⟩ = some (.int .i64 qb) := (x6.cell (p := ⟨wr.heap.size, 1, none⟩) (by simp)).trans (by simp)
              have HO6 := hide (HOJ.out.ext X6.out)
              have hz6 := X6.out.size
              clear x6
              by_cases hof : ofN W s qa qb = id
              · have HN := hide (HGJ.out.yes HQ.out ⟨hin, hof⟩)
                rw [hof]
                clear hof c0 c1 p0 p1 p2 pz
                go_wp2_with (at_builtin; refine wpList_app_at cellE T_cellsG rfl _ _ rfl w1.heap.size _ _ R' rfl HO6.out (qa, qb) _ _ rfl _ rfl rfl (by omega) (by omega) (by omega) ?_; intro g9 c9 w9 o9 t9 l9; have O9 := hide o9; have T9 := hide (And.intro t9 l9); clear o9 t9 l9)
                go_roundw
                case rel => exact ⟨j + 1, R' ++ [(qa, qb)], by go_num, by omega, HN.out, (HXJ.out.trans X6.out).of_below (T9.out.1.to_below (by omega) (fun z hz => (own_lt HO6.out hz).1)) (Nat.le_refl _), (HB9.out.ext X6.out).touch T9.out.1 (fun hz => HNE.out y hz rfl), (fun z hz => by simp only [Value.ownBlock, Option.some.injEq] at hz; subst hz; rcases T9.out.2 with h | h; exact HNE.out _ h; omega), O9.out⟩
                case measure => simp [intOf]; omega
              · have HN := hide (HGJ.out.no HQ.out (fun h => hof h.2))
                have hof' : (ofN W s qa qb == id) = false := by simpa using hof
                generalize ofN W s qa qb = nn at *
                clear hof c0 c1 p0 p1 p2 pz
                go_wp2
                go_roundw
                case rel => exact ⟨j + 1, R', by go_num, by omega, HN.out, HXJ.out.trans X6.out, HB9.out.ext X6.out, HNE.out, HO6.out⟩
                case measure => simp [intOf]; omega
            · refine (of_range W H s qa qb _ hr (by simpa using hin)).mono ?_
              rintro e w6 ⟨rfl, x6⟩
              have X6 := hide (show Ext wr w6 from Ext.trans (by (with_reducible (repeat' (first | exact Ext.refl _ | assumption | refine Ext.drew ?_ | refine Ext.drewN ?_ _ | refine Ext.alloc ?_ _ | refine Ext.setCell ?_ ?_ _ | refine Ext.trans ?_ (by assumption)))); all_goals (first | (simp; done) | (simp; omega))) x6)
              have HO6 := hide (HOJ.out.ext X6.out)
              have HN := hide (HGJ.out.no HQ.out (fun h => hin h.1))
              clear x6 hin c0 c1 p0 p1 p2 pz
              go_wp2
              go_roundw
              case rel => exact ⟨j + 1, R', by go_num, by omega, HN.out, HXJ.out.trans X6.out, HB9.out.ext X6.out, HNE.out, HO6.out⟩
              case measure => simp [intOf]; omega
          · obtain rfl : j = 2 := by omega
            have HN := hide (HGJ.out.fin HGK.out)
            clear hx
            go_wp2
            go_roundw
            case rel => exact ⟨k + 1, R', by go_num, by omega, HN.out, HXJ.out, HOJ.out⟩
            case measure => simp [intOf]; omega
    · obtain rfl : k = L.length := by omega
      have hRl : R.length ≤ 100000 := by omega
      go_wp2_with fail
      refine (sortC_any HO.out (by omega)).mono ?_
      rintro e w5 ⟨rfl, o5, t5⟩
      have O5 := hide o5
      have X5 := hide (HX.out.of_below (t5.to_below hz (fun z hz => (own_lt HO.out hz).1)) (Nat.le_refl _))
      have hl5 : (sortL R).length = R.length := (sortL_perm R).length_eq
      have HL5 := hide hl5
      clear o5 t5 hl5
      go_wp2_with fail
      refine (compact_any (by rw [HL5.out]; omega) (sortL_sorted R) O5.out).mono ?_
      rintro e w6 ⟨v6, L6, rfl, o6, st6, mm6, t6⟩
      have hE : L6 = cellsL W H s id L := strict_unique st6 (cellsL_strict W H s id L) (fun c => by
        rw [mm6, (sortL_perm R).mem_iff, HG.out.2 c, HM.out c, List.take_of_length_le (Nat.le_refl _)])
      subst hE
      obtain ⟨a6, c6, rfl⟩ := o6.slice
      have O6 := hide o6
      have X6 := hide (X5.out.of_below (t6.to_below X5.out.size (fun z hz => (own_lt O5.out hz).1)) (Nat.le_refl _))
      clear o6 st6 mm6 t6
      go_wp2_with fail
      go_ret2
      exact ⟨_, rfl, X1.out.trans X6.out, O6.out.lower X1.out.size⟩
end Go.Proofs.Ytkioohhjjdlhiaa
