/- gate.Of: all gates. -/
import Derived.Test.YtkioohhjjdlhiaaGateD
import Derived.Test.YtkioohhjjdlhiaaSortI
import Derived.Test.YtkioohhjjdlhiaaAppT
import Derived.Deep.CutBlock
set_option linter.all false
set_option linter.unusedVariables false
set_option linter.unusedSimpArgs false
namespace Go.Proofs.Ytkioohhjjdlhiaa
open Go.RowKit

theorem beside_rng {W H s a b : Int} (hr : rightB W H s = true) (h0 : 0 ≤ a) (ha : a < cnt W H s) (hb : b ∈ besideL W H s a) : 0 ≤ b ∧ b < cnt W H s := by
  obtain ⟨h1, h2, h3, h4, h5, h6⟩ := rightB_true.1 hr
  have b1 := acr_bd W s h5 h6 h1 h2
  have b2 := acr_bd H s h5 h6 h3 h4
  have e1 : acr W s * (a / acr W s) + a % acr W s = a := Int.mul_ediv_add_emod a (acr W s)
  have e2 := Int.emod_nonneg a (show acr W s ≠ 0 by omega)
  have e3 : 0 ≤ a / acr W s := Int.ediv_nonneg h0 (by omega)
  have e4 : 0 ≤ acr W s * (a / acr W s) := Int.mul_nonneg (by omega) e3
  rcases beside_mem.1 hb with ⟨h, rfl⟩ | ⟨h, rfl⟩ | ⟨h, rfl⟩ | ⟨h, rfl⟩
  · omega
  · refine ⟨by omega, ?_⟩
    have e5 : a / acr W s < acr H s := by
      refine Int.ediv_lt_of_lt_mul (by omega) ?_
      unfold cnt at ha
      rw [Int.mul_comm]
      exact ha
    have e6 : acr W s * (a / acr W s) ≤ acr W s * (acr H s - 1) := Int.mul_le_mul_of_nonneg_left (by omega) (by omega)
    rw [Int.mul_sub, Int.mul_one] at e6
    unfold cnt
    omega
  · omega
  · omega

/-- The gates between two clusters side by side. -/
def btw (l : List Int) (W H s x y : Int) : List (Cell × Cell) := pick (bords W H s x y) (refI (opB l W (bords W H s x y)) (bords W H s x y).length (bords W H s x y).length)
/-- The gates of a cluster with its later neighbours. -/
def rowG (l : List Int) (W H s a : Int) : List (Cell × Cell) := ((sortInt (besideL W H s a)).filter (fun b => decide (a ≤ b))).flatMap (btw l W H s a)
def ofG (l : List Int) (W H s : Int) (n : Nat) : List (Cell × Cell) := (List.range n).flatMap fun k : Nat => rowG l W H s (k : Int)

theorem btw_len {l : List Int} {W H s x y : Int} (hr : rightB W H s = true) (h0 : 0 ≤ min x y) (h1 : min x y < cnt W H s) : (btw l W H s x y).length ≤ 16 := by
  unfold btw
  have h := borderL_len (hi := max x y) hr h0 h1
  refine Nat.le_trans ?_ h
  unfold bords
  generalize borderL W H s (min x y) (max x y) = B
  have := (List.length_filterMap_le (fun k => B[k]?) (refI (opB l W B) B.length B.length))
  refine Nat.le_trans this ?_
  unfold refI
  exact Nat.le_trans (List.length_filter_le _ _) (by simp)
theorem flat_len_le {α β : Type} (f : α → List β) (c : Nat) : ∀ (l : List α), (∀ x ∈ l, (f x).length ≤ c) → (l.flatMap f).length ≤ l.length * c
  | [], _ => by simp
  | a :: l, h => by
    have h1 := h a (by simp)
    have h2 := flat_len_le f c l (fun x hx => h x (by simp [hx]))
    rw [List.flatMap_cons, List.length_append, List.length_cons, Nat.add_mul, Nat.one_mul]
    omega
theorem part_len {l : List Int} {W H s a : Int} (hr : rightB W H s = true) (h0 : 0 ≤ a) (ha : a < cnt W H s) (m : List Int) (hm : ∀ b ∈ m, a ≤ b) : (m.flatMap (btw l W H s a)).length ≤ m.length * 16 :=
  flat_len_le _ _ _ (fun b hb => btw_len hr (by have := hm b hb; omega) (by have := hm b hb; omega))
theorem rowG_len {l : List Int} {W H s a : Int} (hr : rightB W H s = true) (h0 : 0 ≤ a) (ha : a < cnt W H s) : (rowG l W H s a).length ≤ 64 := by
  have h1 := part_len (l := l) hr h0 ha ((sortInt (besideL W H s a)).filter (fun b => decide (a ≤ b))) (fun b hb => by simpa using (List.mem_filter.1 hb).2)
  have h2 : ((sortInt (besideL W H s a)).filter (fun b => decide (a ≤ b))).length ≤ 4 := Nat.le_trans (List.length_filter_le _ _) (by rw [sortInt_len]; exact besideL_len W H s a)
  unfold rowG
  omega
theorem ofG_len {l : List Int} {W H s : Int} (hr : rightB W H s = true) {n : Nat} (hn : (n : Int) ≤ cnt W H s) : (ofG l W H s n).length ≤ n * 64 := by
  have := flat_len_le (fun k : Nat => rowG l W H s (k : Int)) 64 (List.range n) (fun k hk => rowG_len hr (by omega) (by have := List.mem_range.1 hk; omega))
  simpa [ofG] using this
theorem ofG_succ (l : List Int) (W H s : Int) (n : Nat) : ofG l W H s (n + 1) = ofG l W H s n ++ rowG l W H s (n : Int) := by
  unfold ofG; rw [List.range_succ, List.flatMap_append]; simp

set_option maxRecDepth 100000 in
theorem gtOf_chk (W H : Int) (a : Option Addr) (n c : Nat) (pW pH s : Int) (w : World) (h : (gateE W H pW pH n == 0) = false) :
    Calls Try.prog 6 #[.agg #[.int .i64 W, .int .i64 H, .slice a n c], .agg #[.int .i64 pW, .int .i64 pH, .int .i64 s]] w fun e w' => e = .returned (.tuple #[.slice none 0 0, .int .i64 (gateE W H pW pH n)]) ∧ Ext w w' := by
  have h' : (gateE W H pW pH n != 0) = true := by simpa using h
  go_enter Try.func6, Try.ntmps6
  go_wp2_with (go_at_call 15; refine (gtCheck_any W H a n c pW pH s _).mono ?_; rintro e w3 ⟨rfl, hb3⟩; obtain ⟨hc3, hf3⟩ := hb3.cells; have hz3 := hb3.size; (repeat (first | rw [World.size_alloc] at hz3 | rw [World.size_drew] at hz3)); have X3 := hide hb3; clear hb3)
  go_ret2
  exact ⟨rfl, Ext.trans (by (with_reducible (repeat' (first | exact Ext.refl _ | assumption | refine Ext.drew ?_ | refine Ext.drewN ?_ _ | refine Ext.alloc ?_ _ | refine Ext.setCell ?_ ?_ _ | refine Ext.trans ?_ (by assumption)))); all_goals (first | (simp; done) | (simp; omega))) X3.out⟩

theorem gateE_zero {W H pW pH : Int} {n : Nat} (h : gateE W H pW pH n = 0) : checkE W H n = 0 ∧ pW = W ∧ pH = H := by
  unfold gateE at h
  by_cases h0 : checkE W H n = 0
  · rw [if_pos h0] at h
    by_cases h1 : pW = W ∧ pH = H
    · exact ⟨h0, h1⟩
    · rw [if_neg h1] at h; simp at h
  · rw [if_neg h0] at h; exact absurd h h0

set_option maxRecDepth 100000 in
theorem gtOf_cut (W H : Int) (a : Option Addr) (n c : Nat) (pW pH s : Int) (w : World) (h : gateE W H pW pH n = 0) (hr : rightB pW pH s = false) :
    Calls Try.prog 6 #[.agg #[.int .i64 W, .int .i64 H, .slice a n c], .agg #[.int .i64 pW, .int .i64 pH, .int .i64 s]] w fun e w' => e = .returned (.tuple #[.slice none 0 0, .int .i64 1]) ∧ Ext w w' := by
  have HG := hide h
  have HR := hide hr
  clear h hr
  go_enter Try.func6, Try.ntmps6
  go_wp2_with (first
    | (go_at_call 15; refine (gtCheck_any W H a n c pW pH s _).mono ?_; rintro e w3 ⟨rfl, hb3⟩; obtain ⟨hc3, hf3⟩ := hb3.cells; have hz3 := hb3.size; (repeat (first | rw [World.size_alloc] at hz3 | rw [World.size_drew] at hz3)); have X3 := hide hb3; clear hb3; rw [HG.out])
    | (go_at_call 16; refine (count_no pW pH s _ HR.out).mono ?_; rintro e w4 ⟨rfl, hb4⟩; have X4 := hide hb4; clear hb4))
  go_ret2
  exact ⟨rfl, (Ext.trans (by (with_reducible (repeat' (first | exact Ext.refl _ | assumption | refine Ext.drew ?_ | refine Ext.drewN ?_ _ | refine Ext.alloc ?_ _ | refine Ext.setCell ?_ ?_ _ | refine Ext.trans ?_ (by assumption)))); all_goals (first | (simp; done) | (simp; omega))) X3.out).trans X4.out⟩

theorem own_int_at {w : World} {base n c : Nat} {a : Option Addr} {l : List Int} {j : Nat} {b : Int} (h : Own intE w base 3 (.slice a n c) l) (hj : l[j]? = some b) : ∃ g, a = some ⟨g, 0, none⟩ ∧ w.cell? ⟨g, j, none⟩ = some (.int .i64 b) ∧ g < w.heap.size := by
  obtain ⟨hjl, rfl⟩ := List.getElem?_eq_some_iff.1 hj
  have h' : w.ownsRow base 3 1 (.slice a n c) l.length (l.flatMap intE.cells) := h
  rcases h.2 with ⟨hv, h0⟩ | ⟨g, cap, cur, hv, hb, hg, _⟩
  · omega
  · cases hv
    refine ⟨g, rfl, ?_, lt_of_block hg⟩
    have := h.reads.ints.2 j hjl
    simpa using this

def partG (l : List Int) (W H s a : Int) (L : List Int) (j : Nat) : List (Cell × Cell) := ((L.take j).filter (fun b => decide (a ≤ b))).flatMap (btw l W H s a)
theorem partG_skip {l : List Int} {W H s a b : Int} {L : List Int} {j : Nat} (hb : L[j]? = some b) (h : b < a) : partG l W H s a L (j + 1) = partG l W H s a L j := by
  unfold partG
  rw [List.take_add_one, hb, List.filter_append]
  simp [show ¬ a ≤ b by omega]
theorem partG_take {l : List Int} {W H s a b : Int} {L : List Int} {j : Nat} (hb : L[j]? = some b) (h : ¬ b < a) : partG l W H s a L (j + 1) = partG l W H s a L j ++ btw l W H s a b := by
  unfold partG
  rw [List.take_add_one, hb, List.filter_append, List.flatMap_append]
  simp [show a ≤ b by omega]

set_option maxRecDepth 100000 in
set_option maxHeartbeats 2000000 in
theorem gtOf_yes (W H : Int) (a : Option Addr) (l : List Int) (c : Nat) (s : Int) (w : World) (hm : checkE W H l.length = 0) (hr : Row16 w a l) (ht : rightB W H s = true) :
    Calls Try.prog 6 #[.agg #[.int .i64 W, .int .i64 H, .slice a l.length c], .agg #[.int .i64 W, .int .i64 H, .int .i64 s]] w (RetGatesE w (ofG l W H s (cnt W H s).toNat) 0) := by
  have hG : gateE W H W H l.length = 0 := by unfold gateE; rw [if_pos hm, if_pos ⟨rfl, rfl⟩]
  have HG := hide hG
  have HM := hide hm
  have HR := hide hr
  have b0 := cnt_bd ht
  obtain ⟨N, hN⟩ : ∃ N : Nat, (cnt W H s).toNat = N := ⟨_, rfl⟩
  have HN := hide (show cnt W H s = (N : Int) by omega)
  have hN1 : 1 ≤ N := by omega
  have hN2 : N ≤ 65536 := by omega
  have hN0 : ((N : Int) == 0) = false := by simp; omega
  rw [hN]
  clear hG hm hr b0 hN
  go_enter Try.func6, Try.ntmps6
  go_wp2_with fail
  have BF : Hid (Blk ((w.alloc (.cells #[.int .i64 W, .int .i64 H, .slice a l.length c] 26)).alloc (.cells #[.int .i64 W, .int .i64 H, .int .i64 s] 28)) w.heap.size 26 #[.int .i64 W, .int .i64 H, .slice a l.length c]) := hide (Blk.over (Blk.new_ rfl))
  have BP : Hid (Blk ((w.alloc (.cells #[.int .i64 W, .int .i64 H, .slice a l.length c] 26)).alloc (.cells #[.int .i64 W, .int .i64 H, .int .i64 s] 28)) (w.heap.size + 1) 28 #[.int .i64 W, .int .i64 H, .int .i64 s]) := hide (Blk.new_ (by simp))
  have X2 : Hid (Ext w ((w.alloc (.cells #[.int .i64 W, .int .i64 H, .slice a l.length c] 26)).alloc (.cells #[.int .i64 W, .int .i64 H, .int .i64 s] 28))) := hide (by (with_reducible (repeat' (first | exact Ext.refl _ | assumption | refine Ext.drew ?_ | refine Ext.drewN ?_ _ | refine Ext.alloc ?_ _ | refine Ext.setCell ?_ ?_ _ | refine Ext.trans ?_ (by assumption)))); all_goals (first | (simp; done) | (simp; omega)))
  obtain ⟨w2, hw2⟩ : ∃ w2, (w.alloc (.cells #[.int .i64 W, .int .i64 H, .slice a l.length c] 26)).alloc (.cells #[.int .i64 W, .int .i64 H, .int .i64 s] 28) = w2 := ⟨_, rfl⟩
  rw [hw2] at BF BP X2 ⊢
  obtain ⟨f, hf⟩ : ∃ f, w.heap.size = f := ⟨_, rfl⟩
  rw [hf] at BF BP ⊢
  clear hw2 hf
  refine (gtCheck_any W H a l.length c W H s _).mono ?_
  rintro e w3 ⟨rfl, x3⟩
  rw [HG.out]
  have BP3 := hide (BP.out.ext x3)
  have p0 := BP3.out.at 0 rfl; have p1 := BP3.out.at 1 rfl; have p2 := BP3.out.at 2 rfl; have pz := BP3.out.lt
  have X3 := hide x3
  clear x3
  go_wp2_with fail
  refine (count_yes W H s _ ht).mono ?_
  rintro e w4 ⟨rfl, x4⟩
  rw [HN.out]
  have BP4 := hide (BP3.out.ext x4)
  have X4 := hide (X3.out.trans x4)
  clear p0 p1 p2 pz
  have p0 := BP4.out.at 0 rfl; have p1 := BP4.out.at 1 rfl; have p2 := BP4.out.at 2 rfl; have pz := BP4.out.lt
  clear x4 X3 BP3
  go_wp2_with fail
  refine (count_yes W H s _ ht).mono ?_
  rintro e w5 ⟨rfl, x5⟩
  rw [HN.out]
  have X5 := hide (X4.out.trans x5)
  clear x5 X4 BP4 p0 p1 p2 pz
  go_wp2_with fail
  go_loopw [7, 30] (fun o i wr => ∃ k : Nat, k ≤ N ∧ i = .int .i64 (k : Int) ∧ Ext w2 wr ∧ Own pairE wr w2.heap.size 65 o (ofG l W H s k)) (fun _ i _ => N - (intOf i).toNat)
  case atStart => exact ⟨0, Nat.zero_le _, rfl, X5.out, Own.nil _ _ _ _⟩
  case round =>
    obtain ⟨k, hk, rfl, hx, ho⟩ := hrel
    have HX := hide hx
    have HO := hide ho
    have hz := hx.size
    clear hx ho X5
    by_cases hlt : k < N
    · have BPr := hide (BP.out.ext HX.out)
      have p0 := BPr.out.at 0 rfl; have p1 := BPr.out.at 1 rfl; have p2 := BPr.out.at 2 rfl; have pz := BPr.out.lt
      have hkc : (k : Int) < cnt W H s := by rw [HN.out]; omega
      have HKC := hide hkc
      have HLn := hide (ofG_len (l := l) ht (n := k) (by omega))
      clear hkc
      go_wp2_with fail
      refine (Beside_yes W H s (k : Int) _ ht (by omega) HKC.out).mono ?_
      rintro e w3 ⟨v3, rfl, x3, o3⟩
      obtain ⟨a3, c3, rfl⟩ := o3.slice
      have hm4 := besideL_len W H s (k : Int)
      obtain ⟨m, hmm⟩ : ∃ m, (besideL W H s (k : Int)).length = m := ⟨_, rfl⟩
      rw [hmm] at o3 hm4 ⊢
      have HMM := hide hmm
      have O3 := hide o3
      have X3 := hide x3
      clear hmm o3 x3
      go_wp2_with fail
      refine (sortI_any O3.out (by rw [HMM.out]; omega)).mono ?_
      rintro e w4 ⟨rfl, o4, t4⟩
      have X4 := hide (X3.out.of_below (t4.to_below X3.out.size (fun q hq => (own_lt O3.out hq).1)) (Nat.le_refl _))
      have O4 := hide o4
      have HXX := hide (HX.out.trans X4.out)
      have HOO := hide (HO.out.ext X4.out)
      have HLm := hide (show (sortInt (besideL W H s (k : Int))).length = m by rw [sortInt_len, HMM.out])
      have HLi := hide (fun b (hb : b ∈ sortInt (besideL W H s (k : Int))) => beside_rng ht (by omega) HKC.out ((sortInt_perm _).mem_iff.1 hb))
      have HLh := hide (fun b (hb : b ∈ sortInt (besideL W H s (k : Int))) => (show hasI (besideL W H s (k : Int)) b = true by unfold hasI; simpa using (sortInt_perm _).mem_iff.1 hb))
      have HRow := hide (show rowG l W H s (k : Int) = partG l W H s (k : Int) (sortInt (besideL W H s (k : Int))) m by unfold partG rowG; rw [List.take_of_length_le (by rw [HLm.out]; exact Nat.le_refl _)])
      generalize sortInt (besideL W H s (k : Int)) = L at *
      clear o4 t4 O3 X3 HO HX BPr p0 p1 p2 pz
      go_wp2_with fail
      go_loopw [7, 43] (fun o i wy => ∃ j : Nat, j ≤ m ∧ i = .int .i64 (j : Int) ∧ Ext w2 wy ∧ Own pairE wy w2.heap.size 65 o (ofG l W H s k ++ partG l W H s (k : Int) L j) ∧ Own intE wy w2.heap.size 3 (.slice a3 m c3) L) (fun _ i _ => m - (intOf i).toNat)
      case atStart => exact ⟨0, Nat.zero_le _, rfl, HXX.out, by simpa [partG] using HOO.out, O4.out.lower hz⟩
      case round =>
        obtain ⟨j, hj, rfl, hx, ho, hn⟩ := hrel
        have HX := hide hx
        have HO := hide ho
        have HNr := hide hn
        have hzz := hx.size
        clear hx ho hn HXX HOO O4 X4
        by_cases hltj : j < m
        · obtain ⟨b, hb⟩ : ∃ b, L[j]? = some b := ⟨_, List.getElem?_eq_getElem (by rw [HLm.out]; exact hltj)⟩
          have hbm := List.mem_of_getElem? hb
          have hb1 := HLi.out b hbm
          have HH := hide (HLh.out b hbm)
          obtain ⟨g, rfl, cg, zg⟩ := own_int_at HNr.out hb
          have HB := hide hb
          by_cases hbk : b < (k : Int)
          · have HP := hide (partG_skip (l := l) (W := W) (H := H) (s := s) hb hbk)
            clear hb hbm
            go_wp2
            go_roundw
            case rel => exact ⟨j + 1, by omega, by go_num, HX.out, by rw [HP.out]; exact HO.out, HNr.out⟩
            case measure => simp [intOf]; omega
          · have HP := hide (partG_take (l := l) (W := W) (H := H) (s := s) hb hbk)
            have HPl : Hid ((partG l W H s (k : Int) L j).length ≤ 64) := hide (by
              have h1 := part_len (l := l) ht (by omega : 0 ≤ (k : Int)) HKC.out ((L.take j).filter (fun b => decide ((k : Int) ≤ b))) (fun b hb => by simpa using (List.mem_filter.1 hb).2)
              have h2 : ((L.take j).filter (fun b => decide ((k : Int) ≤ b))).length ≤ 4 := Nat.le_trans (List.length_filter_le _ _) (by simp; omega)
              unfold partG
              omega)
            have HBl := hide (btw_len (l := l) ht (x := (k : Int)) (y := b) (by omega) (by have := HKC.out; omega))
            have hmin : min (k : Int) b = (k : Int) := by omega
            have hmax : max (k : Int) b = b := by omega
            have HG2 := hide (fun (w' : World) (xw : Ext w2 w') => gtBetween_near W H a l c s (k : Int) b w' HM.out (HR.out.ext (X2.out.trans xw)) ht (by omega) HKC.out hb1.1 hb1.2 (by rw [hmin, hmax]; exact HH.out))
            have BFr := hide (BF.out.ext HX.out)
            have BPr := hide (BP.out.ext HX.out)
            have q0 := BFr.out.at 0 rfl; have q1 := BFr.out.at 1 rfl; have q2 := BFr.out.at 2 rfl; have qz := BFr.out.lt
            have p0 := BPr.out.at 0 rfl; have p1 := BPr.out.at 1 rfl; have p2 := BPr.out.at 2 rfl; have pz := BPr.out.lt
            clear hb hbm hmin hmax
            go_wp2_with fail
            refine (HG2.out _ HX.out).mono ?_
            rintro e w6 ⟨v6, rfl, x6, o6⟩
            obtain ⟨a6, c6, rfl⟩ := o6.slice
            have O6 := hide o6
            have X6 := hide x6
            have HO6 := hide (HO.out.ext x6)
            have HN6 := hide (HNr.out.ext x6)
            have hz6 := x6.size
            clear o6 x6 HG2 BFr BPr q0 q1 q2 qz p0 p1 p2 pz cg
            go_wp2_with (at_builtin; refine wpList_app_rows pairE T_gates rfl _ _ rfl w2.heap.size _ _ (btw l W H s (k : Int) b) rfl HO6.out _ rfl O6.out.reads (by have := HLn.out; have := HPl.out; have := HBl.out; rw [List.length_append]; omega) (by have := HLn.out; have := HPl.out; have := HBl.out; rw [List.length_append]; omega) (by omega) ?_; intro v9 w9 o9 t9 l9; obtain ⟨a9, c9, rfl⟩ := o9.slice; have O9 := hide o9; have T9 := hide t9; clear o9 t9 l9)
            go_roundw
            case rel =>
              refine ⟨j + 1, by omega, by go_num, (HX.out.trans X6.out).of_below (T9.out.to_below (by omega) (fun q hq => (own_lt HO6.out hq).1)) (Nat.le_refl _), ?_, HN6.out.touch T9.out (fun q hq hs => own_ne_ownG HO6.out HN6.out (by decide) hs hq)⟩
              have h := O9.out
              rw [List.append_assoc, ← HP.out] at h
              rw [show (ofG l W H s k).length + ((partG l W H s (k : Int) L j).length + (btw l W H s (k : Int) b).length) = (ofG l W H s k ++ partG l W H s (k : Int) L (j + 1)).length by rw [HP.out]; simp]
              exact h
            case measure => simp [intOf]; omega
        · obtain rfl : j = m := by omega
          go_wp2
          go_roundw
          case rel => exact ⟨k + 1, by omega, by go_num, HX.out, by rw [ofG_succ, HRow.out]; exact HO.out⟩
          case measure => simp [intOf]; omega
    · obtain rfl : k = N := by omega
      go_wp2
      obtain ⟨ao, co, rfl⟩ := HO.out.slice
      go_ret2
      exact ⟨_, rfl, X2.out.trans HX.out, HO.out.lower X2.out.size⟩
end Go.Proofs.Ytkioohhjjdlhiaa
