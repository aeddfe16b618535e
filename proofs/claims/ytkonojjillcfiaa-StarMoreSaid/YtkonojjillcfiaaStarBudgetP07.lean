/- Part 7 of 14 of the proof of StarBudget. -/
import Derived.Test.YtkonojjillcfiaaStarBudgetP06
import Derived.Test.YtkonojjillcfiaaStarBudgetP01
import Derived.OwnWalkIn
import Derived.Maps.AppendAt
import Derived.RangeFuncBox
import Derived.TacticsInMore
import Derived.Test.YtkonojjillcfiaaStarBudgetP03
import Derived.Test.YtkonojjillcfiaaStarBudgetP02
set_option linter.all false
set_option linter.unusedVariables false
set_option linter.unusedSimpArgs false
/- Walks of geom: way, next, around, apart, Walk. -/
namespace Go.Proofs.Ytkonojjillcfiaa
open Go.RowKit

theorem gWay_any (k : Nat) (hk : k < 4) (w : World) : Calls Try.prog 118 #[.int .i64 (k : Int)] w fun e w' => e = .returned (.agg #[.int .i64 (dirX k), .int .i64 (dirY k)]) ∧ Ext w w' := by
  obtain rfl | rfl | rfl | rfl : k = 0 ∨ k = 1 ∨ k = 2 ∨ k = 3 := by omega
  · go_enter Try.func118, Try.ntmps118
    go_wp2
    exact bodyPost_ret (v := .agg #[.int .i64 0, .int .i64 (-1)]) (by simp [results, Try.results118, go_sem, *]) rfl ⟨rfl, (by (with_reducible (repeat' (first | exact Ext.refl _ | assumption | refine Ext.drew ?_ | refine Ext.drewN ?_ _ | refine Ext.alloc ?_ _ | refine Ext.setCell ?_ ?_ _ | refine Ext.trans ?_ (by assumption)))); all_goals (first | (simp; done) | (simp; omega)))⟩
  · go_enter Try.func118, Try.ntmps118
    go_wp2
    exact bodyPost_ret (v := .agg #[.int .i64 1, .int .i64 0]) (by simp [results, Try.results118, go_sem, *]) rfl ⟨rfl, (by (with_reducible (repeat' (first | exact Ext.refl _ | assumption | refine Ext.drew ?_ | refine Ext.drewN ?_ _ | refine Ext.alloc ?_ _ | refine Ext.setCell ?_ ?_ _ | refine Ext.trans ?_ (by assumption)))); all_goals (first | (simp; done) | (simp; omega)))⟩
  · go_enter Try.func118, Try.ntmps118
    go_wp2
    exact bodyPost_ret (v := .agg #[.int .i64 0, .int .i64 1]) (by simp [results, Try.results118, go_sem, *]) rfl ⟨rfl, (by (with_reducible (repeat' (first | exact Ext.refl _ | assumption | refine Ext.drew ?_ | refine Ext.drewN ?_ _ | refine Ext.alloc ?_ _ | refine Ext.setCell ?_ ?_ _ | refine Ext.trans ?_ (by assumption)))); all_goals (first | (simp; done) | (simp; omega)))⟩
  · go_enter Try.func118, Try.ntmps118
    go_wp2
    exact bodyPost_ret (v := .agg #[.int .i64 (-1), .int .i64 0]) (by simp [results, Try.results118, go_sem, *]) rfl ⟨rfl, (by (with_reducible (repeat' (first | exact Ext.refl _ | assumption | refine Ext.drew ?_ | refine Ext.drewN ?_ _ | refine Ext.alloc ?_ _ | refine Ext.setCell ?_ ?_ _ | refine Ext.trans ?_ (by assumption)))); all_goals (first | (simp; done) | (simp; omega)))⟩

theorem gNext_any (k : Nat) (hk : k < 4) (x y : Int) (hx : -1000000 ≤ x ∧ x ≤ 1000000) (hy : -1000000 ≤ y ∧ y ≤ 1000000) (w : World) : Calls Try.prog 115 #[.agg #[.int .i64 x, .int .i64 y], .int .i64 (k : Int)] w fun e w' => e = .returned (.agg #[.int .i64 (x + dirX k), .int .i64 (y + dirY k)]) ∧ Ext w w' := by
  have H1 := hide (fun w' => gWay_any k hk w')
  have hb := dir_bd k
  generalize dirX k = dx at *
  generalize dirY k = dy at *
  clear hk
  go_enter Try.func115, Try.ntmps115
  go_wp2_with (go_at_call 118; refine (H1.out _).mono ?_; rintro e w1 ⟨rfl, hb1⟩; obtain ⟨hc1, hf1⟩ := hb1.cells; have hz1 := hb1.size; (repeat (first | rw [World.size_alloc] at hz1 | rw [World.size_drew] at hz1)); have z1_0 : w.heap.size < w1.heap.size := (by omega); have z1_1 : w.heap.size + 1 < w1.heap.size := (by omega))
  exact bodyPost_ret (v := .agg #[.int .i64 (x + dx), .int .i64 (y + dy)]) (by simp [results, Try.results115, go_sem, *]) rfl ⟨rfl, (by (with_reducible (repeat' (first | exact Ext.refl _ | assumption | refine Ext.drew ?_ | refine Ext.drewN ?_ _ | refine Ext.alloc ?_ _ | refine Ext.setCell ?_ ?_ _ | refine Ext.trans ?_ (by assumption)))); all_goals (first | (simp; done) | (simp; omega)))⟩

theorem gAround_any (x y : Int) (w : World) : Calls Try.prog 108 #[.agg #[.int .i64 x, .int .i64 y]] w fun e w' => e = .returned (.func (.func 114) #[] #[.pointer (some ⟨w.heap.size, 0, none⟩)]) ∧ w' = w.alloc (.cells #[.int .i64 x, .int .i64 y] 49) := by
  go_enter Try.func108, Try.ntmps108
  go_wp2
  go_ret
  exact ⟨rfl, rfl⟩

/-- The four cells round one. -/
def fourC (x y : Int) : List (Int × Cell) := (List.range 4).map fun k : Nat => ((k : Int), (x + dirX k, y + dirY k))
theorem fourC_len (x y : Int) : (fourC x y).length = 4 := by simp [fourC]
theorem fourC_at (x y : Int) {k : Nat} (hk : k < 4) : (fourC x y)[k]? = some ((k : Int), (x + dirX k, y + dirY k)) := by
  unfold fourC
  rw [List.getElem?_map, List.getElem?_range hk]
  rfl
theorem fourC_take (x y : Int) {k : Nat} (hk : k < 4) : (fourC x y).take (k + 1) = (fourC x y).take k ++ [((k : Int), (x + dirX k, y + dirY k))] := by
  have h := fourC_at x y hk
  have hl : k < (fourC x y).length := by rw [fourC_len]; exact hk
  rw [List.take_add_one, h]
  rfl

def dcV (q : Int × Cell) : Array Value := #[.int .i64 q.1, .agg #[.int .i64 q.2.1, .int .i64 q.2.2]]

theorem gAround1_iter {w : World} {x y : Int} (hx : -1000000 ≤ x ∧ x ≤ 1000000) (hy : -1000000 ≤ y ∧ y ≤ 1000000) {bc : Nat} {R : Nat → Prop} (B : Blk w bc 49 #[.int .i64 x, .int .i64 y]) (Rb : R bc) (hR : ∀ k, R k → k < w.heap.size) :
    IterX Try.prog 114 #[.pointer (some ⟨bc, 0, none⟩)] dcV (fourC x y) R w := by
  intro lp J W0 hx0 hA hE hS hY hJ0
  have HE := hide hE
  have HY := hide hY
  have HJ0 := hide hJ0
  have B0 := hide (B.ext hx0)
  have zbc := B0.out.lt
  clear hA hE hS hY hJ0 B hR hx0
  show Calls Try.prog 114 #[.func (.yield lp) #[] #[], .pointer (some ⟨bc, 0, none⟩)] W0 _
  go_enter Try.func114, Try.ntmps114
  go_wp2
  go_loopw [3] (fun s3 wr => ∃ (k : Nat) (T : Nat → Prop), k ≤ 4 ∧ s3 = .int .i64 (k : Int) ∧ J T ((fourC x y).take k) wr ∧ Touch (fun j => ¬ R j) W0 wr) (fun s3 _ => 4 - (intOf s3).toNat)
  case atStart => exact ⟨0, fun _ => False, by omega, rfl, HJ0.out, Touch.refl _ _⟩
  case round =>
    obtain ⟨k, T, hk, rfl, hJ, ht⟩ := hrel
    have J1 := hide hJ
    have T1 := hide ht
    have B1 := hide (B0.out.touch ht (fun h => h Rb))
    have q0 := B1.out.at 0 rfl; have q1 := B1.out.at 1 rfl; have qz := B1.out.lt
    clear hJ ht
    by_cases hlt : k < 4
    · have HN := hide (fun w' => gNext_any k hlt x y hx hy w')
      have hd : decide ((k : Int) ≤ 3) = true := by simp; omega
      have hpre : (fourC x y).take k ++ [((k : Int), (x + dirX k, y + dirY k))] <+: fourC x y := by rw [← fourC_take x y hlt]; exact List.take_prefix _ _
      have HPRE := hide hpre
      clear hpre
      refine (wpIn_wide (n := 4)).1 ?_
      gi_wp2_with (first
        | (refine ⟨trivial, ?_⟩; gi_at_call 115; refine (callsIn_wide.2 (HN.out _)).mono ?_; rintro e w2 ⟨rfl, hb2⟩; obtain ⟨fn, tmps, assign, body, hyy, hRR⟩ := HY.out T _ _ w2 (HE.out _ _ _ _ J1.out hb2) HPRE.out; have HRR := hide hRR; have HB2 := hide hb2; clear hRR hb2; unfold dcV at hyy)
        | (refine HRR.out.mono ?_; rintro e w3 ⟨rfl, hJ3, ht3⟩; have J3 := hide hJ3; have T3 := hide (T1.out.trans ((Touch.of_ext HB2.out).trans (ht3.mono (fun j _ h => h.2)))); clear hJ3 ht3 hyy HRR))
      go_roundw
      case rel => exact ⟨k + 1, T, by omega, by go_num, by rw [fourC_take x y hlt]; exact J3.out, T3.out⟩
      case measure => simp [intOf]; omega
    · obtain rfl : k = 4 := by omega
      have J4 : Hid (J T (fourC x y) wr) := hide (by
        have h := J1.out
        rw [List.take_of_length_le (by rw [fourC_len]; exact Nat.le_refl _)] at h
        exact h)
      clear J1
      go_wp2_with fail
      go_end0
      exact ⟨⟨_, rfl⟩, T, J4.out⟩
end Go.Proofs.Ytkonojjillcfiaa

/- append inside a round: where the new row lies. -/
namespace Go.Proofs.Ytkonojjillcfiaa
open Go.RowKit

theorem wpListIn_app_at {α : Type} (E : Enc α) {Fc : Fence} {n : Nat} {P : Program} {t e : TypeId} {z : Value} {bytes : Nat} (T : ElemT P t e z E.size bytes) {ops : Array Oper} {rest : List Oper} {o : Oper} {a : Act} {Q : Exit → Act → World → Prop}
    (hgd : o.guard = none) (s x : Operand) (ho : o.op = .call { callee := .builtin .append, args := #[s, x], argTypes := #[t, t] })
    (base : Nat) (w : World) (v : Value) (l : List α) (hs : a.eval s = v) (hown : Own E w base e v l)
    (y : α) (cs : Array Value) (e' : TypeId) (hcs : cs = (E.cells y).toArray) (b : Nat) (hb : b = w.heap.size) (hx : a.eval x = .slice (some ⟨b, 0, none⟩) 1 1)
    (hlen : (l.length + 1) * bytes ≤ 140737488355328) (hl : l.length ≤ 1000000000) (hbase : base ≤ w.heap.size)
    (h : ∀ g c w', Own E w' base e (.slice (some ⟨g, 0, none⟩) (l.length + 1) c) (l ++ [y]) → Touch (fun k => v.ownBlock = some k) w w' → (v.ownBlock = some g ∨ w.heap.size ≤ g) → wpListIn Fc n P ops Q rest (a.put o.dst (.slice (some ⟨g, 0, none⟩) (l.length + 1) c)) w') : wpListIn Fc n P ops Q (o :: rest) a (w.alloc (.cells cs e')) := by
  subst hb
  obtain ⟨i0, hi, hz0, hz1, hz2⟩ := info_parts T.info
  have hnews := cells_new w cs e'
  subst hcs
  refine wpListIn_plain hgd fun K hK' => ?_
  obtain ⟨v', w', hrun, r1, r2, r3, r4⟩ := run_append_own_at (P := P) (w.alloc (.cells (E.cells y).toArray e')) base t o.type e i0 z E.size bytes T.under hi hz0 hz1 hz2 T.zs T.pos v l.length (l.flatMap E.cells) (World.ownsRow.alloc hown _) ⟨w.heap.size, 0, none⟩ 1 1 (E.cells y) (by simp [E.len]) (by simpa using hnews) (E.one y) (by unfold maxLen; omega) hlen (by simp; omega)
  have hown'' : Own E w' base e v' (l ++ [y]) := by unfold Own; simpa using r1
  obtain ⟨g, c, rfl⟩ := hown''.cons
  have key := h g c w' hown'' (((Touch.refl _ w).alloc _).grown r2 (fun k hk => .inl hk)) (by
    simp only [Value.ownBlock, World.size_alloc, Option.some.injEq] at r4
    rcases r4 with r4 | r4
    · exact .inl r4.symm
    · exact .inr (by omega))
  unfold Oper.wpIn
  refine ⟨?_, ?_⟩
  · simp [Oper.about, ho, resolve, Target.leads, Sem.run_pure]
  · rw [Oper.semAt_plain Fc _ _ (by rw [ho]; intro c hc'; cases hc')]
    simp [execOp, ho, resolve, invoke, builtin, hs, hx, hrun, Result.andThen]
    exact hK' _ _ key
end Go.Proofs.Ytkonojjillcfiaa

/- Walk of flood.Path. -/
namespace Go.Proofs.Ytkonojjillcfiaa
open Go.RowKit
attribute [local go_sem] Oper.semAt_some

theorem fBack_any (W H : Int) (a : Option Addr) (n c : Nat) (bx byy bw bh x y : Int) (g m cg : Nat) (w : World) :
    Calls Try.prog 73 #[.agg #[.int .i64 W, .int .i64 H, .slice a n c, .int .i64 bx, .int .i64 byy, .int .i64 bw, .int .i64 bh], .slice (some ⟨g, 0, none⟩) m cg, .agg #[.int .i64 x, .int .i64 y]] w fun e w' => e = .returned (.func (.func 99) #[] #[.pointer (some ⟨w.heap.size + 2, 0, none⟩), .pointer (some ⟨w.heap.size + 1, 0, none⟩), .pointer (some ⟨w.heap.size, 0, none⟩)]) ∧
      w' = ((w.alloc (.cells #[.int .i64 W, .int .i64 H, .slice a n c, .int .i64 bx, .int .i64 byy, .int .i64 bw, .int .i64 bh] 122)).alloc (.cells #[.slice (some ⟨g, 0, none⟩) m cg] 76)).alloc (.cells #[.int .i64 x, .int .i64 y] 49) := by
  go_enter Try.func73, Try.ntmps73
  go_wp2
  go_ret
  exact ⟨rfl, rfl⟩

set_option maxRecDepth 100000 in
theorem fPath_bad {w : World} (W H : Int) (a : Option Addr) (n c : Nat) (bx byy bw bh x y tx ty : Int) (he : lookE W H n bx byy bw bh x y ≠ 0) :
    Calls Try.prog 40 #[.agg #[.int .i64 W, .int .i64 H, .slice a n c], .agg #[.int .i64 bx, .int .i64 byy, .int .i64 bw, .int .i64 bh], .agg #[.int .i64 x, .int .i64 y], .agg #[.int .i64 tx, .int .i64 ty]] w fun e w' => e = .returned (.tuple #[.slice none 0 0, .int .u64 0, .int .i64 (lookE W H n bx byy bw bh x y)]) ∧ Ext w w' := by
  have HL := hide (fun (w' : World) => fLook_bad (w := w') W H a n c bx byy bw bh x y he)
  generalize lookE W H n bx byy bw bh x y = le at *
  have hle : (le != 0) = true := by simpa using he
  clear he
  go_enter Try.func40, Try.ntmps40
  go_wp2_with (go_at_call 69; refine (HL.out _).mono ?_; rintro e w1 ⟨rfl, hb1⟩)
  exact bodyPost_ret (v := .tuple #[.slice none 0 0, .int .u64 0, .int .i64 le]) (by simp [results, Try.results40, go_sem, *]) rfl ⟨rfl, (by (with_reducible (repeat' (first | exact Ext.refl _ | assumption | refine Ext.drew ?_ | refine Ext.drewN ?_ _ | refine Ext.alloc ?_ _ | refine Ext.setCell ?_ ?_ _ | refine Ext.trans ?_ (by assumption)))); all_goals (first | (simp; done) | (simp; omega)))⟩

set_option maxRecDepth 100000 in
theorem fPath_out {w : World} (W H : Int) (a : Option Addr) (n c : Nat) (bx byy bw bh x y tx ty : Int) (he : lookE W H n bx byy bw bh x y = 0) (ht : hasB bx byy bw bh tx ty = false) :
    Calls Try.prog 40 #[.agg #[.int .i64 W, .int .i64 H, .slice a n c], .agg #[.int .i64 bx, .int .i64 byy, .int .i64 bw, .int .i64 bh], .agg #[.int .i64 x, .int .i64 y], .agg #[.int .i64 tx, .int .i64 ty]] w fun e w' => e = .returned (.tuple #[.slice none 0 0, .int .u64 0, .int .i64 10]) ∧ Ext w w' := by
  have HL := hide (fun (w' : World) => fLook_ok (w := w') W H a n c bx byy bw bh x y he)
  have HH := hide (fun w' => gHas_any bx byy bw bh tx ty w')
  obtain ⟨hm, hl, hf, hh⟩ := lookE_ok.1 he
  rw [hasG_eq hm hf, ht] at HH
  clear he hm hl hf hh ht
  go_enter Try.func40, Try.ntmps40
  go_wp2_with (first
    | (go_at_call 69; refine (HL.out _).mono ?_; rintro e w1 ⟨rfl, hb1⟩; obtain ⟨hc1, hf1⟩ := hb1.cells; have hz1 := hb1.size; (repeat (first | rw [World.size_alloc] at hz1 | rw [World.size_drew] at hz1)); have z1_0 : w.heap.size < w1.heap.size := (by omega); have z1_1 : w.heap.size + 1 < w1.heap.size := (by omega); have z1_2 : w.heap.size + 2 < w1.heap.size := (by omega); have z1_3 : w.heap.size + 3 < w1.heap.size := (by omega))
    | (go_at_call 71; refine (HH.out _).mono ?_; rintro e w2 ⟨rfl, hb2⟩))
  exact bodyPost_ret (v := .tuple #[.slice none 0 0, .int .u64 0, .int .i64 10]) (by simp [results, Try.results40, go_sem, *]) rfl ⟨rfl, (by (with_reducible (repeat' (first | exact Ext.refl _ | assumption | refine Ext.drew ?_ | refine Ext.drewN ?_ _ | refine Ext.alloc ?_ _ | refine Ext.setCell ?_ ?_ _ | refine Ext.trans ?_ (by assumption)))); all_goals (first | (simp; done) | (simp; omega)))⟩

set_option maxRecDepth 100000 in
set_option maxHeartbeats 1000000 in
theorem fPath_at {w : World} {W H : Int} {a : Option Addr} {l : List Int} {bx byy bw bh x y : Int} (c : Nat) (tx ty : Int) (he : lookE W H l.length bx byy bw bh x y = 0) (hr : Row16 w a l) (hu : U16s l) (ht : hasB bx byy bw bh tx ty = true) :
    Calls Try.prog 40 #[.agg #[.int .i64 W, .int .i64 H, .slice a l.length c], .agg #[.int .i64 bx, .int .i64 byy, .int .i64 bw, .int .i64 bh], .agg #[.int .i64 x, .int .i64 y], .agg #[.int .i64 tx, .int .i64 ty]] w fun e w' =>
      ∃ far, IsFar (mapNet (landP_of he hu)) (idxN W (x, y)) far ∧ FarLow (mapNet (landP_of he hu)) far ∧ Ext w w' ∧
        ((far (idxN W (tx, ty)) = infI ∧ e = .returned (.tuple #[.slice none 0 0, .int .u64 0, .int .i64 22])) ∨
         (far (idxN W (tx, ty)) < infI ∧ ∃ v p, e = .returned (.tuple #[v, .int .u64 (far (idxN W (tx, ty))), .int .i64 0]) ∧ BackP (mapNet (landP_of he hu)) far (idxN W (tx, ty)) p ∧ Own cellE w' w.heap.size 49 v (p.map (cellV W)).reverse)) := by
  have HLk := hide (fun (w' : World) => fLook_ok (w := w') W H a l.length c bx byy bw bh x y he)
  have HH := hide (fun w' => gHas_any bx byy bw bh tx ty w')
  obtain ⟨hm, hl, hf, hh⟩ := lookE_ok.1 he
  rw [hasG_eq hm hf, ht] at HH
  have L := land_of he hr hu
  have hin := L.plain.in_ ht
  have HIN := hide hin
  obtain ⟨G, hG⟩ : ∃ G, mapNet (landP_of he hu) = G := ⟨_, rfl⟩
  have HG : Hid (mapNet L.plain = G) := hide hG
  have HF := hide (fun (w' : World) (hx : Ext w w') => (by have := fFlood_any (L.ext hx) c x y hh; rw [hG] at this; exact this : Calls Try.prog 70 #[.agg #[.int .i64 W, .int .i64 H, .slice a l.length c, .int .i64 bx, .int .i64 byy, .int .i64 bw, .int .i64 bh], .agg #[.int .i64 x, .int .i64 y]] w' fun e w'' =>
      ∃ v far, e = .returned v ∧ Ext w' w'' ∧ Own u64E w'' w'.heap.size 53 v (farL far l.length) ∧ IsFar G (idxN W (x, y)) far ∧ FarLow G far))
  rw [hG]
  have HAt := hide (fun (w' : World) => fAt_any W H a l.length c bx byy bw bh tx ty w' hm hin.1 hin.2.1 hin.2.2.1 hin.2.2.2)
  have hti := idx_int (W := W) hin.1 (by omega) hin.2.2.1
  have htn := L.plain.idx_lt hin
  obtain ⟨t, hte⟩ : ∃ t, idxN W (tx, ty) = t := ⟨_, rfl⟩
  rw [hte] at hti htn ⊢
  rw [← hti] at HAt
  have HT := hide (show vx W t = tx ∧ vy W t = ty by rw [← hte]; exact ⟨vx_idx hin.1 hin.2.1 hin.2.2.1, vy_idx hin.1 hin.2.1 hin.2.2.1⟩)
  generalize idxN W (x, y) = s at *
  obtain ⟨n, hn⟩ : ∃ n, l.length = n := ⟨_, rfl⟩
  have HN := hide hn
  have wh := L.plain.wh
  rw [hn] at HLk HF HAt htn wh
  have hti2 : (t : Int) < (n : Int) := by omega
  refine callsIn_wide.1 (callsIn_of_wp_marks (n := 4) Try.func40 rfl trivial ((wpIn_wide (n := 4)).2 ?_))
  rw [hn]
  simp only [Try.ntmps40, List.size_toArray, List.length_cons, List.length_nil, Nat.reduceAdd, Nat.reduceSub, Array.replicate_succ, Array.replicate_zero, List.push_toArray, List.append_toArray, List.nil_append, List.cons_append]
  generalize hQ : bodyPostM _ _ _ _ _ = Q'
  have HQ := hide hQ
  clear hQ
  have HTI := hide hti
  clear hG he hr hu ht hm hl hf hh hin hte hn hti
  go_wp2_with (first
    | (go_at_call 69; refine (HLk.out _).mono ?_; rintro e w1 ⟨rfl, hb1⟩; obtain ⟨hc1, hf1⟩ := hb1.cells; have hz1 := hb1.size; (repeat (first | rw [World.size_alloc] at hz1 | rw [World.size_drew] at hz1)); have z1_0 : w.heap.size < w1.heap.size := (by omega); have z1_1 : w.heap.size + 1 < w1.heap.size := (by omega); have z1_2 : w.heap.size + 2 < w1.heap.size := (by omega); have z1_3 : w.heap.size + 3 < w1.heap.size := (by omega))
    | (go_at_call 71; refine (HH.out _).mono ?_; rintro e w2 ⟨rfl, hb2⟩; obtain ⟨hc2, hf2⟩ := hb2.cells; have hz2 := hb2.size; (repeat (first | rw [World.size_alloc] at hz2 | rw [World.size_drew] at hz2)); have z2_0 : w.heap.size < w2.heap.size := (by omega); have z2_1 : w.heap.size + 1 < w2.heap.size := (by omega); have z2_2 : w.heap.size + 2 < w2.heap.size := (by omega); have z2_3 : w.heap.size + 3 < w2.heap.size := (by omega)))
  have hx02 : Ext w w2 := (by (with_reducible (repeat' (first | exact Ext.refl _ | assumption | refine Ext.drew ?_ | refine Ext.drewN ?_ _ | refine Ext.alloc ?_ _ | refine Ext.setCell ?_ ?_ _ | refine Ext.trans ?_ (by assumption)))); all_goals (first | (simp; done) | (simp; omega)))
  have lb2 : LandB w1.heap.size W H a n c bx byy bw bh w2 := LandB.ext (w := w1.alloc (.cells #[.int .i64 W, .int .i64 H, .slice a n c, .int .i64 bx, .int .i64 byy, .int .i64 bw, .int .i64 bh] 122)) (by unfold LandB; simp [go_sem]) hb2 (by simp)
  have t0 : w2.cell? ⟨w.heap.size + 3, 0, none⟩ = some (.int .i64 tx) := by rw [hc2 _ _ (by simp; omega), ((Ext.refl w1).alloc _).cell (p := ⟨w.heap.size + 3, 0, none⟩) z1_3, hc1 _ _ (by simp)]; simp [go_sem]
  have t1 : w2.cell? ⟨w.heap.size + 3, 1, none⟩ = some (.int .i64 ty) := by rw [hc2 _ _ (by simp; omega), ((Ext.refl w1).alloc _).cell (p := ⟨w.heap.size + 3, 1, none⟩) z1_3, hc1 _ _ (by simp)]; simp [go_sem]
  have zw1 : w.heap.size + 3 < w1.heap.size := z1_3
  have zw2 : w1.heap.size < w2.heap.size := by have := hb2.size; simp at this; omega
  have HX2 := hide hx02
  have LB2 := hide lb2
  have T0 := hide t0
  have T1 := hide t1
  clear hx02 lb2 t0 t1 hc1 hc2 hf1 hf2 hb1 hb2 hz1 hz2 z1_0 z1_1 z1_2 z1_3 z2_0 z2_1 z2_2 z2_3 HLk HH
  refine (HF.out _ HX2.out).mono ?_
  rintro e w3 ⟨v, far, rfl, hx3, hv, F1, F2⟩
  obtain ⟨g, cg, rfl⟩ : ∃ g cg, v = .slice (some ⟨g, 0, none⟩) n cg := by
    rcases hv.2 with ⟨_, hz⟩ | ⟨g, cap, cur, hv', _⟩
    · rw [farL_len] at hz
      omega
    · exact ⟨g, cap, by rw [hv', farL_len]⟩
  have fa3 : FarAt w3 w2.heap.size g cg far n := hv
  have HX3 := hide (HX2.out.trans hx3)
  have t0 := (hx3.cell (p := ⟨w.heap.size + 3, 0, none⟩) (show w.heap.size + 3 < w2.heap.size by omega)).trans T0.out
  have t1 := (hx3.cell (p := ⟨w.heap.size + 3, 1, none⟩) (show w.heap.size + 3 < w2.heap.size by omega)).trans T1.out
  have lb3 := LB2.out.ext hx3 zw2
  have zw3 := hx3.size
  have FA3 := hide fa3
  have LB3 := hide lb3
  have FF := hide F1
  have FLo := hide F2
  have T03 := hide t0
  have T13 := hide t1
  obtain ⟨l0, l1, l2, l3, l4, l5, l6⟩ := lb3
  clear hv F1 F2 fa3 hx3 HF LB2 T0 T1 HX2
  go_wp2_with fail
  refine (HAt.out _).mono ?_
  rintro e w4 ⟨rfl, hx4⟩
  have zw4 := hx4.size
  have FA4 := hide (FA3.out.ext hx4)
  have LB4 := hide (LB3.out.ext hx4 (by omega))
  have HX4 := hide (HX3.out.trans hx4)
  have t0 := (hx4.cell (p := ⟨w.heap.size + 3, 0, none⟩) (show w.heap.size + 3 < w3.heap.size by omega)).trans T03.out
  have t1 := (hx4.cell (p := ⟨w.heap.size + 3, 1, none⟩) (show w.heap.size + 3 < w3.heap.size by omega)).trans T13.out
  have f0 := (FA4.out.cell htn).1
  obtain ⟨ft, hft⟩ : ∃ x, far t = x := ⟨_, rfl⟩
  have HFT := hide hft
  rw [hft] at f0
  have T04 := hide t0
  have T14 := hide t1
  clear hft l0 l1 l2 l3 l4 l5 l6 LB3 FA3 T03 T13 hx4 HAt
  by_cases hA : ft = 18446744073709551615
  · have hA2 : (ft == 18446744073709551615) = true := by simp [hA]
    go_wp2_with fail
    rw [← HQ.out]
    refine ⟨.tuple #[.slice none 0 0, .int .u64 0, .int .i64 22], by simp [results, Try.results40, go_sem], ?_⟩
    exact ⟨far, FF.out, FLo.out, HX4.out, .inl ⟨HFT.out.trans hA, rfl⟩⟩
  · have hA2 : (ft == 18446744073709551615) = false := by simpa using hA
    have hfi : far t < infI := by
      have h1 := FF.out.le t
      have h2 := HFT.out
      have h3 : infI = 18446744073709551615 := rfl
      omega
    obtain ⟨p, hp⟩ := back_ex FF.out (far t).toNat t (by have := FF.out.nn t; omega) hfi
    have BP := hide hp
    have HFI := hide hfi
    clear hp hfi hA
    obtain ⟨l0, l1, l2, l3, l4, l5, l6⟩ := LB4.out
    have zl4 : w1.heap.size < w4.heap.size := by omega
    have zt4 : w.heap.size + 3 < w4.heap.size := by omega
    go_wp2_with (go_at_call 73; refine (fBack_any _ _ _ _ _ _ _ _ _ _ _ _ _ _ _).mono ?_; rintro e w9 ⟨rfl, hw9⟩; have HW9 := hide hw9; clear hw9)
    have hw9 := HW9.out
    clear HW9
    obtain ⟨wb, hwb⟩ : ∃ wb, wb = w4.alloc (.cells #[.slice none 0 0] 59) := ⟨_, rfl⟩
    rw [← hwb] at hw9
    have zwb : wb.heap.size = w4.heap.size + 1 := by rw [hwb]; simp
    have z9 : w9.heap.size = wb.heap.size + 3 := by rw [hw9]; simp
    have OB := hide (show w9.heap[w4.heap.size]? = some (.cells #[.slice none 0 0] 59 (0, 0)) by
      rw [hw9, ((Ext.refl wb).alloc _ |>.alloc _ |>.alloc _).block (k := w4.heap.size) (by omega), hwb]
      exact heap_new _ _)
    have hx49 : Ext w4 w9 := by rw [hw9, hwb]; exact (by (with_reducible (repeat' (first | exact Ext.refl _ | assumption | refine Ext.drew ?_ | refine Ext.drewN ?_ _ | refine Ext.alloc ?_ _ | refine Ext.setCell ?_ ?_ _ | refine Ext.trans ?_ (by assumption)))); all_goals (first | (simp; done) | (simp; omega)))
    have LB9 := hide (show LandB wb.heap.size W H a n c bx byy bw bh w9 by rw [hw9]; unfold LandB; simp [go_sem])
    have FB9 := hide (show w9.cell? ⟨wb.heap.size + 1, 0, none⟩ = some (.slice (some ⟨g, 0, none⟩) n cg) by rw [hw9]; simp [go_sem])
    have T09 := hide (show w9.cell? ⟨wb.heap.size + 2, 0, none⟩ = some (.int .i64 (vx W t)) by rw [hw9, HT.out.1]; simp [go_sem])
    have T19 := hide (show w9.cell? ⟨wb.heap.size + 2, 1, none⟩ = some (.int .i64 (vy W t)) by rw [hw9, HT.out.2]; simp [go_sem])
    have FA9 := hide (FA4.out.ext hx49)
    have HX9 := hide (HX4.out.trans hx49)
    have hgz := FA4.out.lt
    clear hw9 hwb hx49 l0 l1 l2 l3 l4 l5 l6 LB4 T04 T14 t0 t1 f0
    go_wp2_with fail
    have hL9 := L.ext HX9.out
    obtain ⟨i0, hi, hz0, hz1, hz2⟩ := info_parts T_cells.info
    obtain ⟨ab, aoff, hae, zab, _⟩ := L.row (by rw [HN.out]; omega)
    have hfew := BP.out.few FF.out HFI.out
    have hGn : G.n = n := by rw [← HG.out]; exact HN.out
    rw [hGn] at hfew
    have hwz := HX4.out.size
    have e9 : mapNet hL9.plain = G := HG.out
    have FF9 : IsFar (mapNet hL9.plain) s far := e9 ▸ FF.out
    have BP9 : BackP (mapNet hL9.plain) far t p := e9 ▸ BP.out
    have lb9 : LandB wb.heap.size W H a l.length c bx byy bw bh w9 := HN.out ▸ LB9.out
    have fb9 : w9.cell? ⟨wb.heap.size + 1, 0, none⟩ = some (.slice (some ⟨g, 0, none⟩) l.length cg) := HN.out ▸ FB9.out
    have fa9 : FarAt w9 w2.heap.size g cg far l.length := HN.out ▸ FA9.out
    have hRa : ∀ b o, a = some ⟨b, o, none⟩ → b = wb.heap.size ∨ b = wb.heap.size + 1 ∨ b = g ∨ b = ab := fun b o e => by
      rw [hae] at e
      injection e with e
      injection e with e1
      exact .inr (.inr (.inr e1.symm))
    have hRl : ∀ k, (k = wb.heap.size ∨ k = wb.heap.size + 1 ∨ k = g ∨ k = ab) → k < w9.heap.size := fun k hk => by omega
    have hseq : IterX Try.prog 99 #[.pointer (some ⟨wb.heap.size + 2, 0, none⟩), .pointer (some ⟨wb.heap.size + 1, 0, none⟩), .pointer (some ⟨wb.heap.size, 0, none⟩)] (fun q : Cell => #[.agg #[.int .i64 q.1, .int .i64 q.2]]) (p.map (cellV W)) (fun k => k = wb.heap.size ∨ k = wb.heap.size + 1 ∨ k = g ∨ k = ab) w9 :=
      fBack1_iter hL9 FF9 HFI.out BP9 lb9 fb9 fa9 T09.out T19.out (by omega) (by omega) (by omega) (.inl rfl) (.inr (.inl rfl)) (.inr (.inr (.inl rfl))) hRa hRl
    clear e9 FF9 BP9 lb9 fb9 fa9 hRa
    have OBo := OB.out
    have eg : ∀ args w, (callFunc 99 args).run Try.prog w = .ok (.enter 99 args) w := enters_of Try.func99 (by kernel_rfl) rfl
    refine (wpIn_wide (n := 4)).1 ?_
    refine wp_range_box (g := .tmp 47) (psl := 48) (bs := 16) (v := fun q : Cell => .agg #[.int .i64 q.1, .int .i64 q.2]) (cs := fun q : Cell => #[.int .i64 q.1, .int .i64 q.2]) (t := 49) (gf := 99) ?hg eg hseq
      (fun T pre W1 => (∀ k, T k → w9.heap.size ≤ k ∧ k < W1.heap.size) ∧ Ext w W1 ∧ w9.heap.size ≤ W1.heap.size ∧ ∃ v, W1.heap[w4.heap.size]? = some (.cells #[v] 59 (0, 0)) ∧ Own cellE W1 (w9.heap.size + 2) 49 v pre ∧ ∀ k, v.ownBlock = some k → ¬ T k)
      hRl ?hO ?hA ?hE ?hS ⟨fun _ h => h.elim, HX9.out, Nat.le_refl _, _, OBo, Own.nil _ _ _ _, fun _ _ h => h⟩ ?assign ?body ?done
    case hg => (rw [zwb]; rfl)
    case hO =>
      rintro T pre W1 W2 ⟨i1, i2, i3, v, i4, i5, i6⟩ tt
      exact ⟨fun k hk => ⟨(i1 k hk).1, Nat.lt_of_lt_of_le (i1 k hk).2 tt.size⟩, ((Touch.of_ext (S := fun _ => False) i2).after tt (fun k hk h => by omega)).ext, Nat.le_trans i3 tt.size, v, (tt.block _ (by omega) (fun h => by omega)).trans i4, Own.touch i5 tt (fun k hk h => by have := own_lt i5 hk; omega), i6⟩
    case hA =>
      rintro T pre W1 o ⟨i1, i2, i3, v, i4, i5, i6⟩
      exact ⟨fun k hk => hk.elim (fun h => ⟨(i1 k h).1, by have := (i1 k h).2; simp; omega⟩) (fun e => ⟨by omega, by simp; omega⟩), i2.alloc _, by simp; omega, v, (((Ext.refl W1).alloc o).block (by omega)).trans i4, i5.alloc _, fun k hk h => h.elim (i6 k hk) (fun e => by have := own_lt i5 hk; omega)⟩
    case hE =>
      rintro T pre W1 W2 ⟨i1, i2, i3, v, i4, i5, i6⟩ e
      exact ⟨fun k hk => ⟨(i1 k hk).1, Nat.lt_of_lt_of_le (i1 k hk).2 e.size⟩, i2.trans e, Nat.le_trans i3 e.size, v, (e.block (by omega)).trans i4, i5.ext e, i6⟩
    case hS =>
      rintro T pre W1 q u ⟨i1, i2, i3, v, i4, i5, i6⟩ hq
      have tt : Touch (fun k => k = q.block) W1 (W1.setCell q u) := (Touch.refl (fun k => k = q.block) W1).setCell (.inl rfl) u
      have hqb := (i1 _ hq).1
      exact ⟨fun k hk => ⟨(i1 k hk).1, Nat.lt_of_lt_of_le (i1 k hk).2 tt.size⟩, i2.setCell (by omega) _, Nat.le_trans i3 tt.size, v, (tt.block _ (by omega) (fun h => by omega)).trans i4, Own.touch i5 tt (fun k hk h => i6 k hk (by rw [h]; exact hq)), i6⟩
    case assign =>
      intro q W1 K hK
      simp only [List.setIfInBounds_toArray, List.set_cons_zero, List.set_cons_succ] at hK ⊢
      gi_wp2
      exact hK W1.heap.size _ (by (with_reducible (repeat' (first | exact Ext.refl _ | assumption | refine Ext.drew ?_ | refine Ext.drewN ?_ _ | refine Ext.alloc ?_ _ | refine Ext.setCell ?_ ?_ _ | refine Ext.trans ?_ (by assumption)))); all_goals (first | (simp; done) | (simp; omega))) (heap_new _ _) (Nat.le_refl _)
    case body =>
      rintro T pre q Bx W1 ⟨i1, i2, i3, v, i4, i5, i6⟩ hb hz hz2 hpre
      simp only [List.setIfInBounds_toArray, List.set_cons_zero, List.set_cons_succ]
      have q0 : W1.cell? ⟨Bx, 0, none⟩ = some (.int .i64 q.1) := by simp [World.cell?, hb]
      have q1 : W1.cell? ⟨Bx, 1, none⟩ = some (.int .i64 q.2) := by simp [World.cell?, hb]
      have o0 : W1.cell? ⟨w4.heap.size, 0, none⟩ = some v := by simp [World.cell?, i4]
      have zob : w4.heap.size < W1.heap.size := by omega
      have zBx : Bx < W1.heap.size := (Array.getElem?_eq_some_iff.1 hb).1
      have hlen : pre.length + 1 ≤ 65536 := by
        obtain ⟨rr, hrr⟩ := hpre
        have := congrArg List.length hrr
        simp at this
        omega
      have I5 := hide i5
      have ZZ := hide (show _ ∧ _ from ⟨zwb, z9⟩)
      have I4 := hide i4
      have HZ := hide (show w.heap.size ≤ w4.heap.size ∧ w.heap.size ≤ W1.heap.size from ⟨hwz, i2.size⟩)
      have hbase : w9.heap.size + 2 ≤ W1.heap.size := hz2
      clear hb zwb z9 i4
      gi_wp2_with (gi_at_builtin; refine wpListIn_app_at cellE T_cells rfl _ _ rfl (w9.heap.size + 2) _ _ pre rfl I5.out q _ _ rfl _ rfl rfl (by omega) (by omega) hbase ?_; intro g' cap' w10 hown' ht10 hloc; have hob : w10.heap[w4.heap.size]? = some (.cells #[v] 59 (0, 0)) := (ht10.block _ zob (fun e => by have := own_lt I5.out e; have := ZZ.out; omega)).trans I4.out; have hoc : w10.cell? ⟨w4.heap.size, 0, none⟩ = some v := (by simp [World.cell?, hob]); have hof : w10.frozen? ⟨w4.heap.size, 0, none⟩ = false := (by simp [World.frozen?, hob]); have HOB := hide hob; have HO' := hide hown'; have HT' := hide ht10; have HLO := hide hloc; clear hown' ht10 hloc hob)
      obtain ⟨zwb, z9⟩ := ZZ.out
      have hzz := HZ.out
      have ht10 := HT'.out
      have hzg := ht10.size
      have ho' : w9.heap.size + 2 ≤ g' ∧ g' < w10.heap.size := own_lt HO'.out rfl
      have tt : Touch (fun k => ¬ T k ∧ ¬ (k = wb.heap.size ∨ k = wb.heap.size + 1 ∨ k = g ∨ k = ab) ∧ k ≠ w9.heap.size ∧ k ≠ w9.heap.size + 1) W1 (w10.setCell ⟨w4.heap.size, 0, none⟩ (.slice (some ⟨g', 0, none⟩) (pre.length + 1) cap')) := by
        refine (ht10.mono (fun k _ hk => ⟨i6 k hk, fun e => ?_, fun e => ?_, fun e => ?_⟩)).setCell (p := ⟨w4.heap.size, 0, none⟩) (.inl ⟨fun hT => ?_, fun e => ?_, ?_, ?_⟩) _
        · have := (own_lt I5.out hk).1; omega
        · have := (own_lt I5.out hk).1; omega
        · have := (own_lt I5.out hk).1; omega
        · have := (i1 _ hT).1; have e2 : w9.heap.size ≤ w4.heap.size := this; omega
        · have e2 : w4.heap.size = wb.heap.size ∨ w4.heap.size = wb.heap.size + 1 ∨ w4.heap.size = g ∨ w4.heap.size = ab := e; omega
        · show w4.heap.size ≠ _; omega
        · show w4.heap.size ≠ _; omega
      have tts := tt.size
      have ts : Touch (fun k => k = w4.heap.size) w10 (w10.setCell ⟨w4.heap.size, 0, none⟩ (.slice (some ⟨g', 0, none⟩) (pre.length + 1) cap')) := (Touch.refl (fun k => k = w4.heap.size) w10).setCell (p := ⟨w4.heap.size, 0, none⟩) (.inl rfl) _
      refine ⟨⟨fun k hk => ⟨(i1 k hk).1, Nat.lt_of_lt_of_le (i1 k hk).2 hzg⟩, ?_, by omega, _, ?_, Own.touch HO'.out ts (fun k hk e => ?_), fun k hk hT => ?_⟩, ?_⟩
      · refine (((Touch.of_ext (S := fun _ => False) i2).after ht10 (fun k hk h => ?_)).after ts (fun k hk h => ?_)).ext
        · have := (own_lt I5.out h).1; omega
        · have e2 : k = w4.heap.size := h; omega
      · have hbk : Blk w10 w4.heap.size 59 #[v] := HOB.out
        have := hbk.set_ 0 (.slice (some ⟨g', 0, none⟩) (pre.length + 1) cap')
        unfold Blk at this
        simpa using this
      · simp only [Value.ownBlock, Option.some.injEq] at hk
        subst hk
        have e2 : g' = w4.heap.size := e
        omega
      · simp only [Value.ownBlock, Option.some.injEq] at hk
        subst hk
        rcases HLO.out with h | h
        · exact i6 _ h hT
        · have := (i1 _ hT).2; omega
      · refine tt.mono fun k _ h => ?_
        simpa using h
    case done =>
      rintro T W1 ⟨i1, i2, i3, v, i4, i5, i6⟩ hD
      dsimp only
      have hplen : 1 ≤ p.length := by obtain ⟨r, hr⟩ := BP.out.head; rw [hr]; simp
      obtain ⟨gv, gc, rfl⟩ : ∃ gv gc, v = .slice (some ⟨gv, 0, none⟩) p.length gc := by
        rcases i5.2 with ⟨_, hz⟩ | ⟨g', cap, cur, hv', _⟩
        · simp at hz
          subst hz
          simp at hplen
        · exact ⟨g', cap, by rw [hv']; simp⟩
      have o0 : W1.cell? ⟨w4.heap.size, 0, none⟩ = some (.slice (some ⟨gv, 0, none⟩) p.length gc) := by simp [World.cell?, i4]
      have I5 := hide i5
      have ID := hide hD
      have I2 := hide i2
      have I4 := hide i4
      have zob : w4.heap.size < W1.heap.size := by omega
      have hgv : w9.heap.size + 2 ≤ gv ∧ gv < W1.heap.size := own_lt i5 rfl
      have ZZ := hide (show _ ∧ _ ∧ _ from ⟨zwb, z9, i3⟩)
      clear i5 hD i2 i4 zwb z9 i1 i6
      go_wp2_with fail
      refine (revCell_any (l := p.map (cellV W)) (by simp) hplen (by omega) I5.out).mono ?_
      rintro e w5 ⟨rfl, hr5, t5⟩
      have hgob : w4.heap.size ≠ gv := by have := ZZ.out; omega
      have o5 := (t5.cell (p := ⟨w4.heap.size, 0, none⟩) zob hgob).trans o0
      have R5 := hide hr5
      have T5 := hide t5
      have hz5 := t5.size
      clear hr5 t5 o0
      go_wp2_with fail
      obtain ⟨zwb, z9, i3⟩ := ZZ.out
      have hD5 : w5.heap[w9.heap.size]? = some (.deferred (some [])) := (T5.out.block _ (by omega) (by omega)).trans ID.out
      rw [← HQ.out]
      refine ⟨by simp, .inl ⟨_, _, rfl, run_takeDeferred hD5, ?_⟩⟩
      refine ⟨.tuple #[.slice (some ⟨gv, 0, none⟩) p.length gc, .int .u64 ft, .int .i64 0], by simp [results, Try.results40, go_sem], ?_⟩
      have t6 : Touch (fun j => j = w9.heap.size) w5 (w5.putObj w9.heap.size (.deferred none)) := touch_putObj _ _
      have hww := HX9.out.size
      refine ⟨far, FF.out, FLo.out, ((((Touch.of_ext (S := fun _ => False) I2.out).after T5.out (fun k hk e => by omega)).after t6 (fun k hk e => by omega))).ext, .inr ⟨HFI.out, _, p, by rw [HFT.out], BP.out, ?_⟩⟩
      have := Own.touch R5.out t6 (fun k hk e => by simp only [Value.ownBlock, Option.some.injEq] at hk; omega)
      exact Own.lower this (by omega)
end Go.Proofs.Ytkonojjillcfiaa

/- A range over a function of two values, the second in a box. -/
namespace Go.Proofs.Ytkonojjillcfiaa
open Go.RowKit

theorem wp_range_box2 {α : Type} {P : Program} {n : Nat} {g : Operand} {assign body : Code} {Q : Exit → Act → World → Prop} {a : Act} {w : World} {gf : Nat} {lb : Array Value} {encs : α → Array Value} {u v : α → Value} {cs : α → Array Value} {t : TypeId} {p1 p2 bs : Nat} {xs : List α} {R : Nat → Prop}
    (hg : a.eval g = .func (.func gf) #[] lb) (eg : ∀ args w, (callFunc gf args).run P w = .ok (.enter gf args) w) (hseq : IterX P gf lb encs xs R w) (henc : ∀ x, encs x = #[u x, v x])
    (I : (Nat → Prop) → List α → World → Prop) (hR : ∀ k, R k → k < w.heap.size)
    (hO : ∀ T pre W1 W2, I T pre W1 → Touch (fun k => k = w.heap.size ∨ k = w.heap.size + 1) W1 W2 → I T pre W2)
    (hA : ∀ T pre W1 o, I T pre W1 → I (fun k => T k ∨ k = W1.heap.size) pre (W1.alloc o))
    (hE : ∀ T pre W1 W2, I T pre W1 → Ext W1 W2 → I T pre W2)
    (hS : ∀ T pre W1 p u, I T pre W1 → T p.block → I T pre (W1.setCell p u))
    (h0 : I (fun _ => False) [] w)
    (hassign : ∀ x W1 (K : Act → World → Prop), (∀ Bx W2, Ext W1 W2 → W2.heap[Bx]? = some (.cells (cs x) t (0, 0)) → W1.heap.size ≤ Bx → K { tmps := ((a.tmps.setIfInBounds p1 (u x)).setIfInBounds p2 (v x)).setIfInBounds bs (.pointer (some ⟨Bx, 0, none⟩)), defers := [] } W2) →
      assign.wpIn (Fence.wide.inRound (w.heap.size + 1)) 3 P (Exit.then K (fun _ _ _ => False)) { tmps := (a.tmps.setIfInBounds p1 (u x)).setIfInBounds p2 (v x), defers := [] } W1)
    (hbody : ∀ T pre x Bx W1, I T pre W1 → W1.heap[Bx]? = some (.cells (cs x) t (0, 0)) → w.heap.size + 2 ≤ Bx → w.heap.size + 2 ≤ W1.heap.size → pre ++ [x] <+: xs → body.wpIn (Fence.wide.inRound (w.heap.size + 1)) 3 P
      (fun e _ W2 => e = .normal ∧ I T (pre ++ [x]) W2 ∧ Touch (fun k => ¬ T k ∧ ¬ R k ∧ k ≠ w.heap.size ∧ k ≠ w.heap.size + 1) W1 W2) { tmps := ((a.tmps.setIfInBounds p1 (u x)).setIfInBounds p2 (v x)).setIfInBounds bs (.pointer (some ⟨Bx, 0, none⟩)), defers := [] } W1)
    (hdone : ∀ T W1, I T xs W1 → W1.heap[w.heap.size]? = some (.deferred (some [])) → Q .normal { a with defers := { target := .collected w.heap.size, args := #[] } :: a.defers } W1) :
    (Code.rangeFunc g #[p1, p2] assign body).wpIn Fence.wide n P Q a w := by
  refine wp_range_x hg eg hseq (fun x => by rw [henc]; rfl) I (fun x a' W => ∃ Bx, w.heap.size + 2 ≤ Bx ∧ W.heap[Bx]? = some (.cells (cs x) t (0, 0)) ∧ a' = { tmps := ((a.tmps.setIfInBounds p1 (u x)).setIfInBounds p2 (v x)).setIfInBounds bs (.pointer (some ⟨Bx, 0, none⟩)), defers := [] })
    hR hO hA hE hS ?_ h0 ?_ ?_ hdone
  · rintro x a' W1 W2 ⟨Bx, h1, h2, h3⟩ tt
    exact ⟨Bx, h1, (tt.block Bx (Array.getElem?_eq_some_iff.1 h2).1 (fun e => by omega)).trans h2, h3⟩
  · intro T pre x W1 K i z hK
    have e : ∀ tm : Array Value, Array.foldl (fun (t : Array Value) (x : Nat × Value) => t.setIfInBounds x.1 x.2) tm (#[p1, p2].zip (encs x)) = (tm.setIfInBounds p1 (u x)).setIfInBounds p2 (v x) := fun tm => by rw [henc]; simp
    rw [e]
    exact hassign x W1 K fun Bx W2 e hb hx => hK _ _ e ⟨Bx, by omega, hb, rfl⟩
  · rintro T pre x a' W1 i ⟨Bx, h1, h2, rfl⟩ z hp
    exact hbody T pre x Bx W1 i h2 h1 z hp
end Go.Proofs.Ytkonojjillcfiaa

/- Walk of geom.Beside. -/
namespace Go.Proofs.Ytkonojjillcfiaa
open Go.RowKit
attribute [local go_sem] Oper.semAt_some

/-- The cells of a map among some. -/
def inCells (W H : Int) (l : List (Int × Cell)) : List Cell := (l.filter fun q => inB W H q.2.1 q.2.2).map Prod.snd
theorem inCells_snoc (W H : Int) (l : List (Int × Cell)) (q : Int × Cell) : inCells W H (l ++ [q]) = inCells W H l ++ if inB W H q.2.1 q.2.2 = true then [q.2] else [] := by
  unfold inCells
  rw [List.filter_append, List.map_append]
  congr 1
  rw [List.filter_cons]
  split <;> rfl
theorem inCells_len (W H : Int) (l : List (Int × Cell)) : (inCells W H l).length ≤ l.length := by
  unfold inCells
  rw [List.length_map]
  exact List.length_filter_le _ _

set_option maxRecDepth 100000 in
set_option maxHeartbeats 1000000 in
theorem gBeside_ok {w : World} (W H x y : Int) (hin : inB W H x y = true) :
    Calls Try.prog 89 #[.agg #[.int .i64 W, .int .i64 H], .agg #[.int .i64 x, .int .i64 y]] w fun e w' =>
      ∃ v, e = .returned (.tuple #[v, .int .i64 0]) ∧ Ext w w' ∧ Own cellE w' w.heap.size 49 v (inCells W H (fourC x y)) := by
  have hb := inB_true.1 hin
  have HI := hide (fun w' => in_any W H x y w')
  rw [hin] at HI
  have HI2 := hide (fun (x' y' : Int) w' => in_any W H x' y' w')
  refine callsIn_wide.1 (callsIn_of_wp_marks (n := 4) Try.func89 rfl trivial ((wpIn_wide (n := 4)).2 ?_))
  simp only [Try.ntmps89, List.size_toArray, List.length_cons, List.length_nil, Nat.reduceAdd, Nat.reduceSub, Array.replicate_succ, Array.replicate_zero, List.push_toArray, List.append_toArray, List.nil_append, List.cons_append]
  generalize hQ : bodyPostM _ _ _ _ _ = Q'
  have HQ := hide hQ
  clear hQ hin
  go_wp2_with (go_at_call 61; refine (HI.out _).mono ?_; rintro e w1 ⟨rfl, hb1⟩; obtain ⟨hc1, hf1⟩ := hb1.cells; have hz1 := hb1.size; (repeat (first | rw [World.size_alloc] at hz1 | rw [World.size_drew] at hz1)); have z1_0 : w.heap.size < w1.heap.size := (by omega); have z1_1 : w.heap.size + 1 < w1.heap.size := (by omega))
  refine (gAround_any x y _).mono ?_
  rintro e w4 ⟨rfl, hw4⟩
  have h14 : Ext w1 w4 := by rw [hw4]; exact ((Ext.refl _).alloc _).alloc _
  have z4 : w4.heap.size = w1.heap.size + 2 := by rw [hw4]; simp
  have B0 : Hid (Blk w4 (w.heap.size) 23 #[.int .i64 W, .int .i64 H]) := hide (by refine Blk.ext ?_ (hb1.trans h14); (repeat' (first | exact Blk.new_ (by simp) | refine Blk.drew ?_ | refine Blk.over ?_)))
  have OB : Hid (Blk w4 w1.heap.size 59 #[.slice none 0 0]) := hide (by rw [hw4]; exact (Blk.new_ rfl).over)
  have BC : Hid (Blk w4 (w1.heap.size + 1) 49 #[.int .i64 x, .int .i64 y]) := hide (by rw [hw4]; exact Blk.new_ (by simp))
  have hw1z : w.heap.size + 2 ≤ w1.heap.size := by have := z1_1; omega
  have HX4 := hide (show Ext w w4 from Ext.trans (by (with_reducible (repeat' (first | exact Ext.refl _ | assumption | refine Ext.drew ?_ | refine Ext.drewN ?_ _ | refine Ext.alloc ?_ _ | refine Ext.setCell ?_ ?_ _ | refine Ext.trans ?_ (by assumption)))); all_goals (first | (simp; done) | (simp; omega))) h14)
  clear hw4 h14 hb1 hc1 hf1 hz1 z1_0 z1_1 HI
  go_wp2_with fail
  have hseq := gAround1_iter (w := w4) (x := x) (y := y) (R := fun k => k = w1.heap.size + 1 ∨ k = w.heap.size) (by omega) (by omega) BC.out (.inl rfl) (fun k hk => by omega)
  have eg : ∀ args w, (callFunc 114 args).run Try.prog w = .ok (.enter 114 args) w := enters_of Try.func114 (by kernel_rfl) rfl
  refine (wpIn_wide (n := 4)).1 ?_
  refine wp_range_box2 (g := .tmp 14) (p1 := 15) (p2 := 16) (bs := 8) (u := fun q : Int × Cell => .int .i64 q.1) (v := fun q : Int × Cell => .agg #[.int .i64 q.2.1, .int .i64 q.2.2]) (cs := fun q : Int × Cell => #[.int .i64 q.2.1, .int .i64 q.2.2]) (t := 49) (gf := 114) rfl eg hseq (fun _ => rfl)
    (fun T pre W1 => (∀ k, T k → w4.heap.size ≤ k ∧ k < W1.heap.size) ∧ Ext w W1 ∧ w4.heap.size ≤ W1.heap.size ∧ ∃ v, W1.heap[w1.heap.size]? = some (.cells #[v] 59 (0, 0)) ∧ Own cellE W1 (w4.heap.size + 2) 49 v (inCells W H pre) ∧ (∀ k, v.ownBlock = some k → ¬ T k) ∧ Blk W1 w.heap.size 23 #[.int .i64 W, .int .i64 H])
    (fun k hk => by omega) ?hO ?hA ?hE ?hS ⟨fun _ h => h.elim, HX4.out, Nat.le_refl _, _, OB.out, Own.nil _ _ _ _, fun _ _ h => h, B0.out⟩ ?assign ?body ?done
  case hO =>
    rintro T pre W1 W2 ⟨i1, i2, i3, v, i4, i5, i6, i7⟩ tt
    exact ⟨fun k hk => ⟨(i1 k hk).1, Nat.lt_of_lt_of_le (i1 k hk).2 tt.size⟩, ((Touch.of_ext (S := fun _ => False) i2).after tt (fun k hk h => by omega)).ext, Nat.le_trans i3 tt.size, v, (tt.block _ (by omega) (fun h => by omega)).trans i4, Own.touch i5 tt (fun k hk h => by have := own_lt i5 hk; omega), i6, i7.touch tt (fun h => by omega)⟩
  case hA =>
    rintro T pre W1 o ⟨i1, i2, i3, v, i4, i5, i6, i7⟩
    exact ⟨fun k hk => hk.elim (fun h => ⟨(i1 k h).1, by have := (i1 k h).2; simp; omega⟩) (fun e => ⟨by omega, by simp; omega⟩), i2.alloc _, by simp; omega, v, (((Ext.refl W1).alloc o).block (by omega)).trans i4, i5.alloc _, fun k hk h => h.elim (i6 k hk) (fun e => by have := own_lt i5 hk; omega), i7.over⟩
  case hE =>
    rintro T pre W1 W2 ⟨i1, i2, i3, v, i4, i5, i6, i7⟩ e
    exact ⟨fun k hk => ⟨(i1 k hk).1, Nat.lt_of_lt_of_le (i1 k hk).2 e.size⟩, i2.trans e, Nat.le_trans i3 e.size, v, (e.block (by omega)).trans i4, i5.ext e, i6, i7.ext e⟩
  case hS =>
    rintro T pre W1 q u ⟨i1, i2, i3, v, i4, i5, i6, i7⟩ hq
    have tt : Touch (fun k => k = q.block) W1 (W1.setCell q u) := (Touch.refl (fun k => k = q.block) W1).setCell (.inl rfl) u
    have hqb := (i1 _ hq).1
    exact ⟨fun k hk => ⟨(i1 k hk).1, Nat.lt_of_lt_of_le (i1 k hk).2 tt.size⟩, i2.setCell (by omega) _, Nat.le_trans i3 tt.size, v, (tt.block _ (by omega) (fun h => by omega)).trans i4, Own.touch i5 tt (fun k hk h => i6 k hk (by rw [h]; exact hq)), i6, i7.touch tt (fun h => by omega)⟩
  case assign =>
    intro q W1 K hK
    simp only [List.setIfInBounds_toArray, List.set_cons_zero, List.set_cons_succ] at hK ⊢
    gi_wp2
    exact hK W1.heap.size _ (by (with_reducible (repeat' (first | exact Ext.refl _ | assumption | refine Ext.drew ?_ | refine Ext.drewN ?_ _ | refine Ext.alloc ?_ _ | refine Ext.setCell ?_ ?_ _ | refine Ext.trans ?_ (by assumption)))); all_goals (first | (simp; done) | (simp; omega))) (heap_new _ _) (Nat.le_refl _)
  case body =>
    rintro T pre q Bx W1 ⟨i1, i2, i3, v, i4, i5, i6, i7⟩ hb hz hz2 hpre
    simp only [List.setIfInBounds_toArray, List.set_cons_zero, List.set_cons_succ]
    have BB : Hid (Blk W1 Bx 49 #[.int .i64 q.2.1, .int .i64 q.2.2]) := hide hb
    have BS := hide i7
    have HI3 := hide (fun w' => HI2.out q.2.1 q.2.2 w')
    obtain ⟨d, qx, qy⟩ := q
    simp only at BB HI3 ⊢
    have hsn := inCells_snoc W H pre (d, (qx, qy))
    simp only at hsn
    have hlen : (inCells W H pre).length + 1 ≤ 5 := by
      have h1 := inCells_len W H pre
      obtain ⟨rr, hrr⟩ := hpre
      have := congrArg List.length hrr
      rw [fourC_len] at this
      simp at this
      omega
    have HSN := hide hsn
    have I1 := hide i1
    have I2 := hide i2
    have I5 := hide i5
    have I6 := hide i6
    have I4 := hide i4
    have ZZ := hide (And.intro z4 hz)
    have hz4 : w1.heap.size + 2 ≤ w4.heap.size := by omega
    have zBx := BB.out.lt
    have q0 := BB.out.at 0 rfl; have q1 := BB.out.at 1 rfl; have qz := BB.out.lt
    have p0 := BS.out.at 0 rfl; have p1 := BS.out.at 1 rfl; have pz := BS.out.lt
    clear hb i4 i5 i6 i2 i7 hsn hpre z4 i1
    by_cases hq : inB W H qx qy = true
    · have HQ2 := hide hq
      rw [hq] at HI3
      clear hq
      have hz2' := hz2
      gi_wp2_with (first
        | (refine ⟨trivial, ?_⟩; gi_at_call 61; refine (callsIn_wide.2 (HI3.out _)).mono ?_; rintro e w5 ⟨rfl, hb5⟩; have hz5 := hb5.size; have q0 := (hb5.cell (p := ⟨Bx, 0, none⟩) zBx).trans q0; have q1 := (hb5.cell (p := ⟨Bx, 1, none⟩) zBx).trans q1; have J4 : Hid (Blk w5 w1.heap.size 59 #[v]) := hide (Blk.ext I4.out hb5); have o0 := J4.out.at 0 rfl; have J5 := hide (I5.out.ext hb5); have HB5 := hide hb5; have hbase : w4.heap.size + 2 ≤ w5.heap.size := (by omega); clear hb5)
        | (gi_at_builtin; refine wpListIn_app_at cellE T_cells rfl _ _ rfl (w4.heap.size + 2) _ _ (inCells W H pre) rfl J5.out (qx, qy) _ _ rfl _ rfl rfl (by omega) (by omega) hbase ?_; intro g' cap' w10 hown' ht10 hloc; have hob : w10.heap[w1.heap.size]? = some (.cells #[v] 59 (0, 0)) := (ht10.block _ (by omega) (fun e => by have := own_lt J5.out e; omega)).trans J4.out; have hoc : w10.cell? ⟨w1.heap.size, 0, none⟩ = some v := (by simp [World.cell?, hob]); have hof : w10.frozen? ⟨w1.heap.size, 0, none⟩ = false := (by simp [World.frozen?, hob]); have HOB := hide hob; have HO' := hide hown'; have HT' := hide ht10; have HLO := hide hloc; clear hown' ht10 hloc hob))
      have ht10 := HT'.out
      have hzg := ht10.size
      have hb5 := HB5.out
      have ho' : w4.heap.size + 2 ≤ g' ∧ g' < w10.heap.size := own_lt HO'.out rfl
      have tt10 : Touch (fun k => (v.ownBlock = some k)) W1 w10 := (Touch.of_ext hb5).trans (ht10.mono (fun k _ h => h))
      have tt : Touch (fun k => ¬ T k ∧ ¬ (k = w1.heap.size + 1 ∨ k = w.heap.size) ∧ k ≠ w4.heap.size ∧ k ≠ w4.heap.size + 1) W1 (w10.setCell ⟨w1.heap.size, 0, none⟩ (.slice (some ⟨g', 0, none⟩) ((inCells W H pre).length + 1) cap')) := by
        refine (tt10.mono (fun k _ hk => ⟨I6.out k hk, fun e => ?_, fun e => ?_, fun e => ?_⟩)).setCell (p := ⟨w1.heap.size, 0, none⟩) (.inl ⟨fun hT => ?_, fun e => ?_, ?_, ?_⟩) _
        · have := (own_lt I5.out hk).1; omega
        · have := (own_lt I5.out hk).1; omega
        · have := (own_lt I5.out hk).1; omega
        · have := (I1.out _ hT).1; have e2 : w4.heap.size ≤ w1.heap.size := this; omega
        · have e2 : w1.heap.size = w1.heap.size + 1 ∨ w1.heap.size = w.heap.size := e; omega
        · show w1.heap.size ≠ _; omega
        · show w1.heap.size ≠ _; omega
      have tts := tt10.size
      have ts : Touch (fun k => k = w1.heap.size) w10 (w10.setCell ⟨w1.heap.size, 0, none⟩ (.slice (some ⟨g', 0, none⟩) ((inCells W H pre).length + 1) cap')) := (Touch.refl (fun k => k = w1.heap.size) w10).setCell (p := ⟨w1.heap.size, 0, none⟩) (.inl rfl) _
      refine ⟨⟨fun k hk => ⟨(I1.out k hk).1, Nat.lt_of_lt_of_le (I1.out k hk).2 tts⟩, ?_, Nat.le_trans i3 tts, .slice (some ⟨g', 0, none⟩) ((inCells W H pre).length + 1) cap', ?_, ?_, fun k hk hT => ?_, ?_⟩, ?_⟩
      · refine (((Touch.of_ext (S := fun _ => False) I2.out).after tt10 (fun k hk h => ?_)).after ts (fun k hk h => ?_)).ext
        · have := (own_lt I5.out h).1; omega
        · have e2 : k = w1.heap.size := h; omega
      · have hbk : Blk w10 w1.heap.size 59 #[v] := HOB.out
        have := hbk.set_ 0 (.slice (some ⟨g', 0, none⟩) ((inCells W H pre).length + 1) cap')
        unfold Blk at this
        simpa using this
      · rw [HSN.out, if_pos HQ2.out]
        exact Own.touch HO'.out ts (fun k hk e => by simp only [Value.ownBlock, Option.some.injEq] at hk; subst hk; omega)
      · simp only [Value.ownBlock, Option.some.injEq] at hk
        subst hk
        rcases HLO.out with h | h
        · exact I6.out _ h hT
        · have h1 := (I1.out _ hT).2
          have h2 := hb5.size
          omega
      · exact (BS.out.touch tt10 (fun h => by have := (own_lt I5.out h).1; omega)).touch ts (fun h => by have e2 : w.heap.size = w1.heap.size := h; omega)
      · refine tt.mono fun k _ h => ?_
        simpa using h
    · have hq2 : inB W H qx qy = false := by simpa using hq
      have HQ2 := hide hq2
      rw [hq2] at HI3
      clear hq hq2
      gi_wp2_with (refine ⟨trivial, ?_⟩; gi_at_call 61; refine (callsIn_wide.2 (HI3.out _)).mono ?_; rintro e w5 ⟨rfl, hb5⟩; have HB5 := hide hb5; clear hb5)
      have hb5 := HB5.out
      refine ⟨⟨fun k hk => ⟨(I1.out k hk).1, Nat.lt_of_lt_of_le (I1.out k hk).2 hb5.size⟩, I2.out.trans hb5, Nat.le_trans i3 hb5.size, v, (hb5.block (by omega)).trans I4.out, ?_, I6.out, BS.out.ext hb5⟩, Touch.of_ext hb5⟩
      rw [HSN.out, if_neg (by rw [HQ2.out]; simp), List.append_nil]
      exact I5.out.ext hb5
  case done =>
    rintro T W1 ⟨i1, i2, i3, v, i4, i5, i6, i7⟩ hD
    dsimp only
    have o0 : W1.cell? ⟨w1.heap.size, 0, none⟩ = some v := by simp [World.cell?, i4]
    have I5 := hide i5
    have ID := hide hD
    have I2 := hide i2
    have hzz := i3
    clear i5 hD i2 i4 i1 i6 i7
    go_wp2_with fail
    rw [← HQ.out]
    refine ⟨by simp, .inl ⟨_, _, rfl, run_takeDeferred ID.out, ?_⟩⟩
    refine ⟨.tuple #[v, .int .i64 0], by simp [results, Try.results89, go_sem], ?_⟩
    have t6 : Touch (fun j => j = w4.heap.size) W1 (W1.putObj w4.heap.size (.deferred none)) := touch_putObj _ _
    refine ⟨v, rfl, ((Touch.of_ext (S := fun _ => False) I2.out).after t6 (fun k hk e => by omega)).ext, ?_⟩
    exact Own.lower (Own.touch I5.out t6 (fun k hk e => by have := (own_lt I5.out hk).1; omega)) (by omega)
end Go.Proofs.Ytkonojjillcfiaa

/- The search of layer 10 in plain words: its states, its steps, that it is determined, and that what is settled is settled at its least cost. -/
namespace Go.Proofs.Ytkonojjillcfiaa

/-- How far all are, exists. -/
theorem far_ex (G : Net) (s : Nat) (hs : G.op s = true) : ∃ D, IsFar G s D := by
  have e : infI = 18446744073709551615 := rfl
  have hdec : ∀ v, ∃ d : Int, (0 ≤ d ∧ d ≤ infI) ∧ (∀ c, Way G s v c → c < infI → d ≤ c) ∧ (d < infI → Way G s v d) := by
    intro v
    by_cases h : ∃ c : Nat, Way G s v (c : Int) ∧ (c : Int) < infI
    · obtain ⟨c0, h0, hl0⟩ := h
      have : ∀ k c : Nat, c ≤ k → Way G s v (c : Int) → ∃ m : Nat, m ≤ c ∧ Way G s v (m : Int) ∧ ∀ c' : Nat, Way G s v (c' : Int) → m ≤ c' := by
        intro k
        induction k with
        | zero => intro c hk hw; exact ⟨c, Nat.le_refl _, hw, fun c' _ => by omega⟩
        | succ k ih =>
          intro c hk hw
          by_cases hex : ∃ c', Way G s v ((c' : Nat) : Int) ∧ c' < c
          · obtain ⟨c', h1, h2⟩ := hex
            obtain ⟨m, a1, a2, a3⟩ := ih c' (by omega) h1
            exact ⟨m, by omega, a2, a3⟩
          · exact ⟨c, Nat.le_refl _, hw, fun c' hw' => Nat.not_lt.1 fun hlt => hex ⟨c', hw', hlt⟩⟩
      obtain ⟨m, hm0, hm, hmin⟩ := this c0 c0 (Nat.le_refl _) h0
      exact ⟨m, ⟨by omega, by omega⟩, fun c' hw _ => by
        have h1 := hw.ends.2.2
        have := hmin c'.toNat (hw.cast (by omega))
        omega, fun _ => hm⟩
    · exact ⟨infI, ⟨by omega, Int.le_refl _⟩, fun c hw hl => absurd ⟨c.toNat, hw.cast (by have := hw.ends.2.2; omega), by have := hw.ends.2.2; omega⟩ h, fun h => absurd h (Int.lt_irrefl _)⟩
  obtain ⟨D, hD⟩ := Classical.axiomOfChoice hdec
  have hinf : ∀ v, D v < infI → Way G s v (D v) := fun v => (hD v).2.2
  refine ⟨D, ?_, ?_, fun v => (hD v).1.1, fun v => (hD v).1.2, ?_, ?_⟩
  · intro _
    have h1 := (hD s).1.1
    have h2 := (hD s).2.1 0 (.start hs) (by omega)
    omega
  · intro v hv
    by_cases h : D v < infI
    · have := (hinf v h).ends.2.1
      rw [hv] at this; cases this
    · have := (hD v).1.2; omega
  · intro v ho _ u hu huo hlt
    have hw := hinf u (by have := G.pos v ho; omega)
    exact (hD v).2.1 _ (.step hw hu ho) hlt
  · intro v ho hvs hlt
    have hw := hinf v hlt
    generalize hd : D v = d at hw
    cases hw with
    | start h => exact absurd rfl hvs
    | step hw' hu ho' =>
      rename_i u c
      have hou := hw'.ends
      have hp := G.pos v ho
      have h1 := (hD u).2.1 _ hw' (by omega)
      have h2 := (hD v).2.1 _ (.step (hinf u (by omega)) hu ho) (by omega)
      exact ⟨u, hu, hou.2.1, by omega⟩

/-- A state of a search: 0 new, 1 open, 2 settled; the costs; whence; how many are settled. -/
structure AS where
  st : Nat → Nat
  g : Nat → Int
  came : Nat → Int
  cnt : Int

def updN (f : Nat → Nat) (j : Nat) (x : Nat) (v : Nat) : Nat := if v = j then x else f v
theorem updN_same (f : Nat → Nat) (j : Nat) (x : Nat) : updN f j x j = x := if_pos rfl
theorem updN_ne (f : Nat → Nat) {j v : Nat} (x : Nat) (h : v ≠ j) : updN f j x v = f v := if_neg h
def updI (f : Nat → Int) (j : Nat) (x : Int) (v : Nat) : Int := if v = j then x else f v
theorem updI_same (f : Nat → Int) (j : Nat) (x : Int) : updI f j x j = x := if_pos rfl
theorem updI_ne (f : Nat → Int) {j v : Nat} (x : Int) (h : v ≠ j) : updI f j x v = f v := if_neg h

/-- A cell is opened, or made cheaper. -/
def AS.put (A : AS) (m : Nat) (x : Int) (c : Int) : AS := { A with st := updN A.st m 1, g := updI A.g m x, came := updI A.came m c }
def AS.takes (A : AS) (m : Nat) (x : Int) : Prop := A.st m = 0 ∨ A.st m = 1 ∧ x < A.g m
instance (A : AS) (m : Nat) (x : Int) : Decidable (A.takes m x) := by unfold AS.takes; exact inferInstance
def rx (G : Net) (c : Nat) (A : AS) (m : Nat) : AS := if A.takes m (A.g c + G.cost m) then A.put m (A.g c + G.cost m) c else A
def rxs (G : Net) (c : Nat) (A : AS) (l : List Nat) : AS := l.foldl (rx G c) A
def AS.settle (A : AS) (v : Nat) : AS := { A with st := updN A.st v 2, cnt := A.cnt + 1 }
def stepA (G : Net) (A : AS) (v : Nat) : AS := rxs G v (A.settle v) (G.adj v)
def kOf (W : Int) (h : Nat → Int) (A : AS) (v : Nat) : HKey := ((A.g v + h v, h v), (vy W v, vx W v))
def IsBest (W : Int) (h : Nat → Int) (A : AS) (v : Nat) : Prop := A.st v = 1 ∧ ∀ u, A.st u = 1 → lessB (kOf W h A u) (kOf W h A v) = false

/-- The cells to one, each of which came from the next. -/
inductive Chain (came : Nat → Int) : Nat → List Nat → Prop where
  | stop {v : Nat} : came v < 0 → Chain came v [v]
  | go {v u : Nat} {l : List Nat} : came v = (u : Int) → Chain came u l → Chain came v (v :: l)

/-- What a search comes to: path, cost, settled, error. -/
inductive ARun (G : Net) (W : Int) (h : Nat → Int) (t : Nat) (b : Int) : AS → List Nat → Int → Int → Int → Prop where
  | none {A : AS} : (∀ v, A.st v ≠ 1) → ARun G W h t b A [] 0 A.cnt 22
  | full {A : AS} (v : Nat) : A.st v = 1 → A.cnt = b → ARun G W h t b A [] 0 A.cnt 23
  | found {A : AS} {l : List Nat} : IsBest W h A t → A.cnt ≠ b → Chain A.came t l → ARun G W h t b A l.reverse (A.g t) (A.cnt + 1) 0
  | next {A : AS} {v : Nat} {p : List Nat} {c n e : Int} : IsBest W h A v → A.cnt ≠ b → v ≠ t → ARun G W h t b (stepA G A v) p c n e → ARun G W h t b A p c n e

def start0 (s : Nat) : AS := { st := updN (fun _ => 0) s 1, g := fun _ => 0, came := updI (fun _ => 0) s (-1), cnt := 0 }

theorem Chain.one {came : Nat → Int} {v : Nat} {l m : List Nat} (h : Chain came v l) : Chain came v m → l = m := by
  induction h generalizing m with
  | stop h0 =>
    intro k
    cases k with
    | stop _ => rfl
    | go h1 _ => omega
  | go h0 _ ih =>
    intro k
    cases k with
    | stop h1 => omega
    | go h1 h2 =>
      have : _ = _ := Int.ofNat.inj (h0.symm.trans h1)
      subst this
      rw [ih h2]

theorem best_one {W : Int} (hW : 1 ≤ W) {h : Nat → Int} {A : AS} {u v : Nat} (hu : IsBest W h A u) (hv : IsBest W h A v) : u = v := by
  have h1 := hu.2 v hv.1
  have h2 := hv.2 u hu.1
  have n1 : ¬ lessB (kOf W h A v) (kOf W h A u) = true := by rw [h1]; simp
  have n2 : ¬ lessB (kOf W h A u) (kOf W h A v) = true := by rw [h2]; simp
  rw [lessB_iff] at n1 n2
  unfold kOf at n1 n2
  simp only at n1 n2
  have hy : vy W u = vy W v := by omega
  have hx : vx W u = vx W v := by omega
  rw [← idx_v hW u, ← idx_v hW v, hx, hy]

theorem ARun.one {G : Net} {W : Int} (hW : 1 ≤ W) {h : Nat → Int} {t : Nat} {b : Int} {A : AS} {p p' : List Nat} {c c' n n' e e' : Int} (r : ARun G W h t b A p c n e) : ARun G W h t b A p' c' n' e' → p = p' ∧ c = c' ∧ n = n' ∧ e = e' := by
  induction r generalizing p' c' n' e' with
  | none h0 =>
    intro k
    cases k with
    | none _ => exact ⟨rfl, rfl, rfl, rfl⟩
    | full v hv _ => exact absurd hv (h0 v)
    | found hb _ _ => exact absurd hb.1 (h0 _)
    | next hb _ _ _ => exact absurd hb.1 (h0 _)
  | full v hv hc =>
    intro k
    cases k with
    | none h0 => exact absurd hv (h0 v)
    | full _ _ _ => exact ⟨rfl, rfl, rfl, rfl⟩
    | found _ hn _ => exact absurd hc hn
    | next _ hn _ _ => exact absurd hc hn
  | found hb hn hc =>
    intro k
    cases k with
    | none h0 => exact absurd hb.1 (h0 _)
    | full _ _ h1 => exact absurd h1 hn
    | found _ _ hc' => rw [hc.one hc']; exact ⟨rfl, rfl, rfl, rfl⟩
    | next hb' _ hne _ => exact absurd (best_one hW hb' hb) hne
  | next hb hn hne _ ih =>
    intro k
    cases k with
    | none h0 => exact absurd hb.1 (h0 _)
    | full _ _ h1 => exact absurd h1 hn
    | found hb' _ _ => exact absurd (best_one hW hb hb') hne
    | next hb' _ _ r' =>
      have := best_one hW hb hb'
      subst this
      exact ih r'
end Go.Proofs.Ytkonojjillcfiaa

/- What a search keeps. -/
namespace Go.Proofs.Ytkonojjillcfiaa

structure SInv (G : Net) (D : Nat → Int) (s : Nat) (A : AS) (pend : Nat → Nat → Prop) : Prop where
  two : ∀ v, A.st v ≤ 2
  op : ∀ v, A.st v ≠ 0 → G.op v = true
  s0 : A.st s ≠ 0
  sg : A.g s = 0
  sc : A.came s = -1
  opt : ∀ v, A.st v = 2 → A.g v = D v
  lo : ∀ v, A.st v ≠ 0 → D v ≤ A.g v
  bd : ∀ v, A.st v ≠ 0 → 0 ≤ A.g v ∧ A.g v ≤ 65535 * A.cnt
  bd2 : ∀ v, A.st v = 2 → A.g v + 65535 ≤ 65535 * A.cnt
  back : ∀ v, A.st v ≠ 0 → v ≠ s → ∃ u : Nat, A.came v = (u : Int) ∧ A.st u = 2 ∧ v ∈ G.adj u ∧ A.g v = A.g u + G.cost v
  reach : ∀ u v, A.st u = 2 → G.op v = true → v ∈ G.adj u → ¬ pend u v → A.st v ≠ 0 ∧ A.g v ≤ A.g u + G.cost v
  cnt : ((List.range G.n).countP (fun v => decide (A.st v = 2)) : Int) = A.cnt

section
variable {G : Net} {D : Nat → Int} {s : Nat} {A : AS} {pend pend' : Nat → Nat → Prop}

theorem SInv.weaken (I : SInv G D s A pend) (h : ∀ u v, A.st u = 2 → v ∈ G.adj u → pend u v → pend' u v) : SInv G D s A pend' :=
  { I with reach := fun u v hu ho ha hp => I.reach u v hu ho ha fun k => hp (h u v hu ha k) }
theorem SInv.few (I : SInv G D s A pend) : 0 ≤ A.cnt ∧ A.cnt ≤ G.n := by
  have h := List.countP_le_length (p := fun v => decide (A.st v = 2)) (l := List.range G.n)
  rw [List.length_range] at h
  have := I.cnt
  omega
theorem SInv.opens (I : SInv G D s A pend) {v : Nat} (hv : A.st v = 1) : A.cnt < G.n := by
  have hlt := G.lt v (I.op v (by omega))
  have hc := I.cnt
  have h1 : (List.range G.n).countP (fun v => decide (A.st v = 2)) < (List.range G.n).countP (fun _ => true) := by
    have hm : ∀ l : List Nat, v ∈ l → l.countP (fun v => decide (A.st v = 2)) < l.countP (fun _ => true) := by
      intro l
      induction l with
      | nil => intro h; cases h
      | cons a l ih =>
        intro h
        rw [List.countP_cons, List.countP_cons]
        have hle : l.countP (fun v => decide (A.st v = 2)) ≤ l.countP (fun _ => true) := List.countP_mono_left fun _ _ _ => rfl
        by_cases e : v = a
        · subst e; simp [hv]; simp at hle; omega
        · have := ih ((List.mem_cons.1 h).resolve_left e)
          split <;> simp at * <;> omega
    exact hm _ (List.mem_range.2 hlt)
  rw [List.countP_true, List.length_range] at h1
  omega

theorem sinv_start (hs : G.op s = true) (F : IsFar G s D) : SInv G D s (start0 s) (fun _ _ => False) where
  two v := by unfold start0 updN; simp only; split <;> omega
  op v hv := by
    unfold start0 updN at hv
    simp only at hv
    split at hv
    · next e => rw [e]; exact hs
    · exact absurd rfl hv
  s0 := by simp [start0, updN]
  sg := rfl
  sc := by simp [start0, updI]
  opt v hv := by
    unfold start0 updN at hv
    simp only at hv
    split at hv <;> omega
  lo v hv := by
    unfold start0 updN at hv
    simp only at hv
    split at hv
    · next e => rw [e, F.start hs]; exact Int.le_refl _
    · exact absurd rfl hv
  bd v _ := ⟨Int.le_refl _, Int.le_refl _⟩
  bd2 v hv := by
    unfold start0 updN at hv
    simp only at hv
    split at hv <;> omega
  back v hv hn := by
    unfold start0 updN at hv
    simp only at hv
    split at hv
    · next e => exact absurd e hn
    · exact absurd rfl hv
  reach u v hu := by
    unfold start0 updN at hu
    simp only at hu
    split at hu <;> omega
  cnt := by
    have : (List.range G.n).countP (fun v => decide ((start0 s).st v = 2)) = 0 := by
      rw [List.countP_eq_zero]
      intro v _
      unfold start0 updN
      simp only [decide_eq_true_eq]
      split <;> omega
    rw [this]; rfl

/-- How far a guess goes: it never falls by more than 1 from a cell to one beside it. -/
def Guess (G : Net) (h : Nat → Int) : Prop := ∀ u v, G.op u = true → G.op v = true → v ∈ G.adj u → h u ≤ h v + 1

/-- Of what is reached and not settled there is always a cell that is open at its least cost, and no worse. -/
theorem sinv_wit (I : SInv G D s A (fun _ _ => False)) (F : IsFar G s D) {h : Nat → Int} (hg : Guess G h) : ∀ (k : Nat) (y : Nat), D y = (k : Int) → D y < infI → A.st y ≠ 2 → ∃ x, A.st x = 1 ∧ A.g x = D x ∧ D x + h x ≤ D y + h y := by
  intro k
  induction k using Nat.strongRecOn with
  | _ k ih =>
    intro y hy hf h2
    have ho := F.open_ hf
    by_cases hs : y = s
    · subst hs
      have h1 := I.two y
      have h3 := I.s0
      exact ⟨y, by omega, by rw [I.sg, F.start ho], Int.le_refl _⟩
    · obtain ⟨u, hu, huo, he⟩ := F.from_ y ho hs hf
      have hc := G.pos y ho
      have hn := F.nn u
      have hgu := hg u y huo ho (G.sym u y huo ho hu)
      by_cases hu2 : A.st u = 2
      · obtain ⟨r1, r2⟩ := I.reach u y hu2 ho (G.sym u y huo ho hu) (fun x => x)
        have h1 := I.two y
        have h3 := I.lo y r1
        rw [I.opt u hu2] at r2
        exact ⟨y, by omega, by omega, Int.le_refl _⟩
      · obtain ⟨x, x1, x2, x3⟩ := ih (D u).toNat (by omega) u (by omega) (by omega) hu2
        exact ⟨x, x1, x2, by omega⟩
theorem best_le {W : Int} {h : Nat → Int} {v : Nat} (hb : IsBest W h A v) {u : Nat} (hu : A.st u = 1) : A.g v + h v ≤ A.g u + h u := by
  have := hb.2 u hu
  have hn : ¬ lessB (kOf W h A u) (kOf W h A v) = true := by rw [this]; simp
  rw [lessB_iff] at hn
  unfold kOf at hn
  simp only at hn
  omega
theorem sinv_best (I : SInv G D s A (fun _ _ => False)) (F : IsFar G s D) (hn : G.n ≤ 1000000) {h : Nat → Int} (hg : Guess G h) {W : Int} {v : Nat} (hb : IsBest W h A v) : A.g v = D v ∧ D v < infI := by
  have hv : A.st v ≠ 0 := by have := hb.1; omega
  have h1 := I.lo v hv
  have h2 := I.bd v hv
  have h3 := I.few
  have e : infI = 18446744073709551615 := rfl
  have hf : D v < infI := by omega
  have hnn := F.nn v
  obtain ⟨x, x1, x2, x3⟩ := sinv_wit I F hg (D v).toNat v (by omega) hf (by have := hb.1; omega)
  have := best_le hb x1
  exact ⟨by omega, hf⟩

theorem sinv_settle (I : SInv G D s A (fun _ _ => False)) {v : Nat} (h1 : A.st v = 1) (hg : A.g v = D v) : SInv G D s (A.settle v) (fun u m => u = v ∧ m ∈ G.adj v) := by
  have hst : ∀ u, (A.settle v).st u = if u = v then 2 else A.st u := fun u => rfl
  have hnz : ∀ u, (A.settle v).st u ≠ 0 → A.st u ≠ 0 := fun u hu => by
    rw [hst] at hu
    split at hu
    · next e => subst e; omega
    · exact hu
  have h2 : ∀ u, A.st u = 2 → (A.settle v).st u = 2 := fun u hu => by rw [hst]; split <;> omega
  refine ⟨fun u => ?_, fun u hu => I.op u (hnz u hu), ?_, I.sg, I.sc, fun u hu => ?_, fun u hu => I.lo u (hnz u hu), fun u hu => ?_, fun u hu => ?_, fun u hu hs => ?_, fun u m hu ho ha hp => ?_, ?_⟩
  · rw [hst]; have := I.two u; split <;> omega
  · rw [hst]; have := I.s0; split <;> omega
  · rw [hst] at hu
    split at hu
    · next e => subst e; exact hg
    · exact I.opt u hu
  · have := I.bd u (hnz u hu)
    show 0 ≤ A.g u ∧ A.g u ≤ 65535 * (A.cnt + 1)
    omega
  · show A.g u + 65535 ≤ 65535 * (A.cnt + 1)
    rw [hst] at hu
    split at hu
    · next e => subst e; have := I.bd u (by omega); omega
    · have := I.bd2 u hu; omega
  · obtain ⟨w, w1, w2, w3, w4⟩ := I.back u (hnz u hu) hs
    exact ⟨w, w1, h2 w w2, w3, w4⟩
  · rw [hst] at hu
    split at hu
    · next e => subst e; exact absurd ⟨rfl, ha⟩ hp
    · obtain ⟨r1, r2⟩ := I.reach u m hu ho ha (fun x => x)
      refine ⟨?_, r2⟩
      rw [hst]
      split <;> omega
  · have hlt := G.lt v (I.op v (by omega))
    have hc := I.cnt
    have hcount : ∀ l : List Nat, l.Nodup → l.countP (fun u => decide ((A.settle v).st u = 2)) = l.countP (fun u => decide (A.st u = 2)) + if v ∈ l then 1 else 0 := by
      intro l
      induction l with
      | nil => intro _; rfl
      | cons a l ih =>
        intro hnd
        obtain ⟨n1, n2⟩ := List.nodup_cons.1 hnd
        rw [List.countP_cons, List.countP_cons, ih n2, hst]
        by_cases e : a = v
        · subst e
          rw [if_pos rfl, if_neg n1, h1]
          simp
        · have e2 : ¬ v = a := fun h => e h.symm
          rw [if_neg e]
          by_cases hm : v ∈ l
          · rw [if_pos hm, if_pos (List.mem_cons_of_mem a hm)]; omega
          · have hm2 : ¬ v ∈ a :: l := fun h => (List.mem_cons.1 h).elim e2 hm
            rw [if_neg hm, if_neg hm2]; omega
    rw [hcount _ List.nodup_range, if_pos (List.mem_range.2 hlt)]
    show _ = A.cnt + 1
    push_cast
    omega

theorem sinv_rx (I : SInv G D s A pend) (F : IsFar G s D) (hn : G.n ≤ 1000000) {c m : Nat} (hc : A.st c = 2) (hm : G.op m = true) (ha : m ∈ G.adj c) : SInv G D s (rx G c A m) (fun u v => pend u v ∧ ¬ (u = c ∧ v = m)) := by
  have hco := I.op c (by omega)
  have hgc := I.opt c hc
  have hpm := G.pos m hm
  have htm := G.top m hm
  have hb2 := I.bd2 c hc
  have hbc := I.bd c (by omega)
  have hfew := I.few
  have e : infI = 18446744073709551615 := rfl
  have hms : m ≠ s → D m ≤ D c + G.cost m := fun hs => F.near m hm hs c (G.sym m c hm hco ha) hco (by omega)
  have hDm : D m ≤ A.g c + G.cost m := by
    by_cases hs : m = s
    · subst hs; rw [F.start hm]; omega
    · have := hms hs; omega
  unfold rx
  split
  · next ht =>
    have hnot2 : A.st m ≠ 2 := by rcases ht with h | h <;> omega
    have hnots : m ≠ s := fun hs => by
      subst hs
      have h0 := I.s0
      have h1 := I.sg
      rcases ht with h | h
      · exact h0 h
      · omega
    have hst : ∀ u, (A.put m (A.g c + G.cost m) c).st u = if u = m then 1 else A.st u := fun u => rfl
    have hg : ∀ u, (A.put m (A.g c + G.cost m) c).g u = if u = m then A.g c + G.cost m else A.g u := fun u => rfl
    have hcm : ∀ u, (A.put m (A.g c + G.cost m) c).came u = if u = m then (c : Int) else A.came u := fun u => rfl
    have hcne : c ≠ m := fun h => hnot2 (h ▸ hc)
    have h2 : ∀ u, (A.put m (A.g c + G.cost m) c).st u = 2 → A.st u = 2 ∧ u ≠ m := fun u hu => by
      rw [hst] at hu
      split at hu
      · omega
      · exact ⟨hu, by assumption⟩
    refine ⟨fun u => ?_, fun u hu => ?_, ?_, ?_, ?_, fun u hu => ?_, fun u hu => ?_, fun u hu => ?_, fun u hu => ?_, fun u hu hs => ?_, fun u v hu ho hav hp => ?_, ?_⟩
    · rw [hst]; have := I.two u; split <;> omega
    · rw [hst] at hu
      split at hu
      · next h => rw [h]; exact hm
      · exact I.op u hu
    · rw [hst, if_neg (fun h => hnots h.symm)]; exact I.s0
    · rw [hg, if_neg (fun h => hnots h.symm)]; exact I.sg
    · rw [hcm, if_neg (fun h => hnots h.symm)]; exact I.sc
    · obtain ⟨k1, k2⟩ := h2 u hu
      rw [hg, if_neg k2]; exact I.opt u k1
    · rw [hst] at hu
      rw [hg]
      split
      · next h => rw [h]; exact hDm
      · next h => rw [if_neg h] at hu; exact I.lo u hu
    · rw [hst] at hu
      rw [hg]
      show _ ∧ _ ≤ 65535 * A.cnt
      split
      · omega
      · next h => rw [if_neg h] at hu; exact I.bd u hu
    · obtain ⟨k1, k2⟩ := h2 u hu
      rw [hg, if_neg k2]; exact I.bd2 u k1
    · by_cases hum : u = m
      · subst hum
        refine ⟨c, by rw [hcm, if_pos rfl], by rw [hst, if_neg hcne]; exact hc, ha, ?_⟩
        rw [hg, if_pos rfl, hg, if_neg hcne]
      · rw [hst, if_neg hum] at hu
        obtain ⟨w, w1, w2, w3, w4⟩ := I.back u hu hs
        have hwm : w ≠ m := fun h => hnot2 (h ▸ w2)
        exact ⟨w, by rw [hcm, if_neg hum]; exact w1, by rw [hst, if_neg hwm]; exact w2, w3, by rw [hg, if_neg hum, hg, if_neg hwm]; exact w4⟩
    · obtain ⟨k1, k2⟩ := h2 u hu
      rw [hst, hg, hg, if_neg k2]
      by_cases hvm : v = m
      · subst hvm
        rw [if_pos rfl, if_pos rfl]
        refine ⟨by omega, ?_⟩
        by_cases huc : u = c
        · subst huc; exact Int.le_refl _
        · obtain ⟨r1, r2⟩ := I.reach u v k1 ho hav (fun h => hp ⟨h, fun h' => huc h'.1⟩)
          rcases ht with h | h
          · exact absurd h r1
          · omega
      · rw [if_neg hvm, if_neg hvm]
        exact I.reach u v k1 ho hav (fun h => hp ⟨h, fun h' => hvm h'.2⟩)
    · have := I.cnt
      show _ = A.cnt
      rw [← this]
      congr 1
      refine List.countP_congr fun u _ => ?_
      rw [hst]
      simp only [decide_eq_true_eq]
      split
      · next h => subst h; omega
      · exact Iff.rfl
  · next ht =>
    refine { I with reach := fun u v hu ho hav hp => ?_ }
    by_cases hh : u = c ∧ v = m
    · obtain ⟨rfl, rfl⟩ := hh
      have h2 := I.two v
      have h0 : A.st v ≠ 0 := fun h => ht (.inl h)
      refine ⟨h0, ?_⟩
      by_cases h1 : A.st v = 1
      · have : ¬ (A.g u + G.cost v < A.g v) := fun h => ht (.inr ⟨h1, h⟩)
        omega
      · rw [I.opt v (by omega)]; exact hDm
    · exact I.reach u v hu ho hav (fun h => hp ⟨h, hh⟩)

theorem sinv_end (I : SInv G D s A (fun _ _ => False)) (F : IsFar G s D) (hno : ∀ v, A.st v ≠ 1) {y : Nat} (hy : D y < infI) : A.st y = 2 := by
  by_cases h : A.st y = 2
  · exact h
  · obtain ⟨x, x1, _⟩ := sinv_wit I F (h := fun _ => 0) (fun _ _ _ _ _ => (by decide : (0 : Int) ≤ 0 + 1)) (D y).toNat y (by have := F.nn y; omega) hy h
    exact absurd x1 (hno x)
end
end Go.Proofs.Ytkonojjillcfiaa
