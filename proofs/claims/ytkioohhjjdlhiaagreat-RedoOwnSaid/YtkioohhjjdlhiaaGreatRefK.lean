/- The reference's Wrong: what is wrong with an update; The reference's Anew: which clusters an update tells -/
import Derived.Test.YtkioohhjjdlhiaaGreatRefW
set_option linter.all false
set_option linter.unusedVariables false
set_option linter.unusedSimpArgs false
namespace Go.Proofs.YtkioohhjjdlhiaaGreat
open Go.RowKit

set_option maxRecDepth 100000 in
theorem wrong_chk {w : World} (b : Nat) (W' H' : Int) (a : Option Addr) (n c : Nat) (ca : Option Addr) (m cc : Nat) (he : checkE W' H' n ≠ 0) :
  Calls Tryz.prog 26 #[.pointer (some ⟨b, 0, none⟩), .agg #[.int .i64 W', .int .i64 H', .slice a n c], .slice ca m cc] w fun e w' => e = .returned (.int .i64 (checkE W' H' n)) ∧ Ext w w' := by
 have H1 := hide (fun w' => r04Check_any W' H' a n c w')
 generalize checkE W' H' n = er at *
 have hq : (er != 0) = true := by simpa using he
 clear he
 go_enter Tryz.func26, Tryz.ntmps26
 go_wp2_with (go_at_call 60; refine (H1.out _).mono ?_; rintro e w1 ⟨rfl, hb1⟩; obtain ⟨hc1, hf1⟩ := hb1.cells; have hz1 := hb1.size; (repeat (first | rw [World.size_alloc] at hz1 | rw [World.size_drew] at hz1)); have z1_0 : w.heap.size < w1.heap.size := (by omega))
 go_ret
 exact ⟨rfl, (by (with_reducible (repeat' (first | exact z_r _ | assumption | refine z_d ?_ | refine z_n ?_ _ | refine z_a ?_ _ | refine z_s ?_ ?_ _ | refine z_t ?_ (by assumption)))); all_goals (simp <;> omega))⟩

set_option maxRecDepth 100000 in
theorem wrong_size {w : World} {q : RSpot} {W H s : Int} {n0 N : Nat} (B : Blk w q.b 56 (refCells q W H s n0 N)) (W' H' : Int) (a : Option Addr) (n c : Nat) (ca : Option Addr) (m cc : Nat) (he : checkE W' H' n = 0) (hs : ¬ (W' = W ∧ H' = H)) :
  Calls Tryz.prog 26 #[.pointer (some ⟨q.b, 0, none⟩), .agg #[.int .i64 W', .int .i64 H', .slice a n c], .slice ca m cc] w fun e w' => e = .returned (.int .i64 10) ∧ Ext w w' := by
 have H1 := hide (fun w' => r04Check_any W' H' a n c w')
 rw [he] at H1
 have hq := fun w => eq_size W' H' W H w
 rw [show (W' == W && H' == H) = false by rw [Bool.eq_false_iff]; intro h; simp only [Bool.and_eq_true, beq_iff_eq] at h; exact hs h] at hq
 have BB := hide B
 unfold refCells at BB
 obtain ⟨qb, hqb⟩ : ∃ z, q.b = z := ⟨_, rfl⟩
 rw [hqb] at BB ⊢
 clear he hs B hqb
 have b0 := BB.out.at 0 rfl; have b1 := BB.out.at 1 rfl; have bz := BB.out.lt
 go_enter Tryz.func26, Tryz.ntmps26
 go_wp2_with (go_at_call 60; refine (H1.out _).mono ?_; rintro e w1 ⟨rfl, hb1⟩; obtain ⟨hc1, hf1⟩ := hb1.cells; have hz1 := hb1.size; (repeat (first | rw [World.size_alloc] at hz1 | rw [World.size_drew] at hz1)); have z1_0 : w.heap.size < w1.heap.size := (by omega))
 go_quiet (fail)
 go_wp2_with fail
 go_ret
 exact ⟨rfl, (by (with_reducible (repeat' (first | exact z_r _ | assumption | refine z_d ?_ | refine z_n ?_ _ | refine z_a ?_ _ | refine z_s ?_ ?_ _ | refine z_t ?_ (by assumption)))); all_goals (simp <;> omega))⟩

theorem inB_hasK {W H x y : Int} (hm : mayB W H = true) : inB W H x y = hasB 0 0 W H x y := by
 rw [Bool.eq_iff_iff, inB_true, hasB_true]
 have := mayB_true.1 hm
 omega
theorem r10In_k (W H x y : Int) (w : World) (hm : mayB W H = true) :
  Calls Tryz.prog 36 #[.agg #[.int .i64 W, .int .i64 H], .agg #[.int .i64 x, .int .i64 y]] w fun e w' => e = .returned (.bool (inB W H x y)) ∧ Ext w w' := by
 rw [inB_hasK hm]
 have e0 : hasB 0 0 W H x y = (decide (0 ≤ x) && decide (0 ≤ y) && decide (x < W) && decide (y < H)) := by
  rw [Bool.eq_iff_iff, hasB_true]
  simp
  omega
 rw [e0]
 clear hm e0
 go_enter Tryz.func36, Tryz.ntmps36
 go_wp2
 all_goals go_ret
 all_goals exact ⟨by simp <;> omega, (by (with_reducible (repeat' (first | exact z_r _ | assumption | refine z_d ?_ | refine z_n ?_ _ | refine z_a ?_ _ | refine z_s ?_ ?_ _ | refine z_t ?_ (by assumption)))); all_goals (simp <;> omega))⟩

theorem all_take_snoc {α : Type} {p : α → Bool} {l : List α} {k : Nat} (hk : k < l.length) : (l.take (k + 1)).all p = ((l.take k).all p && p l[k]) := by
 rw [List.take_add_one, List.getElem?_eq_getElem hk, List.all_append]
 simp
theorem any_take_snoc {α : Type} {p : α → Bool} {l : List α} {k : Nat} (hk : k < l.length) : (l.take (k + 1)).any p = ((l.take k).any p || p l[k]) := by
 rw [List.take_add_one, List.getElem?_eq_getElem hk, List.any_append]
 simp

set_option maxRecDepth 100000 in
set_option maxHeartbeats 2000000 in
theorem wrong_same {w : World} {q : RSpot} {R : Nat → Prop} {W H s : Int} {l : List Int} {N : Nat} (h : RefS w q R W H s l N) {a : Option Addr} {l' : List Int} (c : Nat) (hr : Row16 w a l') {ca : Option Addr} {cs : List Cell} (cc : Nat) (hc : RowC w ca cs) (hm : cs.length ≤ 1000000) (hok : checkE W H l'.length = 0) :
  Calls Tryz.prog 26 #[.pointer (some ⟨q.b, 0, none⟩), .agg #[.int .i64 W, .int .i64 H, .slice a l'.length c], .slice ca cs.length cc] w fun e w' => e = .returned (.int .i64 (updE W H l W H l' cs)) ∧ Ext w w' := by
 have H1 := hide (fun w' => r04Check_any W H a l'.length c w')
 rw [hok] at H1
 obtain ⟨hmay, hl2⟩ := checkE_ok.1 hok
 obtain ⟨wb1, wb2, wb3, wb4⟩ := mayB_true.1 hmay
 have hlen : (l.length : Int) = W * H := (checkE_ok.1 h.good.ok).2
 have HIN := hide (fun (x y : Int) (w' : World) => r10In_k W H x y w' hmay)
 have hq := fun w => eq_size W H W H w
 simp only [beq_self_eq_true, Bool.and_self] at hq
 have BB := hide h.blk
 unfold refCells at BB
 have HR0 := hide h.row
 have HR1 := hide hr
 have HCS := hide hc
 have HLL := hide (show l.length = l'.length by omega)
 have HOFF := hide (fun (h2 : (cs.all fun c => inB W H c.1 c.2) = false) => updE_off (l := l) hok h2)
 have HARG := hide (fun (h2 : (cs.all fun c => inB W H c.1 c.2) = true) (h3 : keptB W l l' cs = false) => updE_arg hok h2 h3)
 have HOKK := hide (fun (h2 : (cs.all fun c => inB W H c.1 c.2) = true) (h3 : keptB W l l' cs = true) => updE_ok hok h2 h3)
 have hlb : (l'.length : Int) ≤ 1000000 := by
  have := h.good.len
  omega
 have HK := hide (show keptB W l l' cs = (List.range l'.length).all fun i => decide (l'.getD i 0 = l.getD i 0) || cs.any fun c => idxN W c == i from rfl)
 obtain ⟨qa, hqa⟩ : ∃ z, q.a = z := ⟨_, rfl⟩
 obtain ⟨qb, hqb⟩ : ∃ z, q.b = z := ⟨_, rfl⟩
 rw [hqa] at HR0 BB
 rw [hqb] at BB ⊢
 rw [show l.length = l'.length by omega] at BB
 generalize updE W H l W H l' cs = er at *
 obtain ⟨n, hn⟩ : ∃ z, l'.length = z := ⟨_, rfl⟩
 obtain ⟨m, hmm⟩ : ∃ z, cs.length = z := ⟨_, rfl⟩
 have LN := hide hn
 have LM := hide hmm
 rw [hn] at H1 BB hlb ⊢
 rw [hmm] at hm ⊢
 have HWB := hide (show (1 ≤ W ∧ W ≤ 65536) ∧ 1 ≤ H ∧ H ≤ 65536 by omega)
 clear h hr hc hok hmay hl2 hlen hqa hqb hn hmm wb1 wb2 wb3 wb4
 go_enter Tryz.func26, Tryz.ntmps26
 go_wp2_with fail
 refine (H1.out _).mono ?_
 rintro e w1 ⟨rfl, hb1⟩
 have F1 := hide (show Blk w1 w.heap.size 26 #[.int .i64 W, .int .i64 H, .slice a n c] from by refine Blk.ext ?_ hb1; exact Blk.new_ rfl)
 have X1 := hide (show Ext w w1 from (by (with_reducible (repeat' (first | exact z_r _ | assumption | refine z_d ?_ | refine z_n ?_ _ | refine z_a ?_ _ | refine z_s ?_ ?_ _ | refine z_t ?_ (by assumption)))); all_goals (simp <;> omega)))
 have B1 := hide (BB.out.ext X1.out)
 clear hb1
 have x0 := F1.out.at 0 rfl; have x1 := F1.out.at 1 rfl; have x2 := F1.out.at 2 rfl; have xz := F1.out.lt
 have b0 := B1.out.at 0 rfl; have b1 := B1.out.at 1 rfl; have b2 := B1.out.at 2 rfl; have bz := B1.out.lt
 go_wp2_with fail
 go_quiet (fail)
 go_wp2_with fail
 clear x0 x1 x2 xz b0 b1 b2 bz
 go_loopw [8] (fun iv wr => ∃ k : Nat, k ≤ m ∧ iv = .int .i64 (k : Int) ∧ ((cs.take k).all fun c => inB W H c.1 c.2) = true ∧ Ext w1 wr) (fun iv _ => m - (intOf iv).toNat)
 case atStart => exact ⟨0, Nat.zero_le _, rfl, rfl, (by (with_reducible (repeat' (first | exact z_r _ | assumption | refine z_d ?_ | refine z_n ?_ _ | refine z_a ?_ _ | refine z_s ?_ ?_ _ | refine z_t ?_ (by assumption)))); all_goals (simp <;> omega))⟩
 case round =>
  obtain ⟨k, hk, rfl, hall, hx⟩ := hrel
  have HALL := hide hall
  have XR := hide hx
  have zr := hx.size
  have FR := hide (F1.out.ext hx)
  clear hall hx
  by_cases hlt : k < m
  ·have hkl : k < cs.length := by rw [LM.out]; exact hlt
   obtain ⟨cb, co, rfl, hcb, hcc⟩ := HCS.out (by omega)
   obtain ⟨d0, d1⟩ := hcc k hkl
   have d0 := ((X1.out.trans XR.out).cell (p := ⟨cb, co + k * 2, none⟩) hcb).trans d0
   have d1 := ((X1.out.trans XR.out).cell (p := ⟨cb, co + k * 2 + 1, none⟩) hcb).trans d1
   have z1 := X1.out.size
   have hbw : cb < wr.heap.size := by omega
   have HTK := hide (all_take_snoc (p := fun c : Cell => inB W H c.1 c.2) hkl)
   have HAL := hide (fun (h : inB W H cs[k].1 cs[k].2 = false) => HOFF.out (by
    rw [Bool.eq_false_iff]
    intro h2
    have := List.all_eq_true.1 h2 cs[k] (List.getElem_mem hkl)
    rw [h] at this
    cases this))
   generalize cs[k] = p at *
   obtain ⟨px, py⟩ := p
   simp only at d0 d1 HTK HAL
   have HINp := hide (fun w' => HIN.out px py w')
   generalize inB W H px py = ib at *
   have jk : (k : Int) < (m : Int) := by omega
   have x0 := FR.out.at 0 rfl; have x1 := FR.out.at 1 rfl; have x2 := FR.out.at 2 rfl; have xz := FR.out.lt
   clear hcc hkl
   go_wp2_with fail
   refine seqH_start (S := (fun W => (∀ b o, b < wr.heap.size → W.cell? ⟨b, o, none⟩ = wr.cell? ⟨b, o, none⟩) ∧ Ext wr W)) [(0, true), (1, true), (2, true), (3, true), (4, true), (5, true), (6, false), (7, true)] (by kernel_rfl) (by kernel_rfl) (by kernel_rfl) (by decide) (fun _ _ d _ _ h => by cases d <;> exact h) (by first | with_reducible exact pr_start _ | exact pr_of (by (with_reducible (repeat' (first | exact z_r _ | assumption | refine z_d ?_ | refine z_n ?_ _ | refine z_a ?_ _ | refine z_s ?_ ?_ _ | refine z_t ?_ (by assumption)))); all_goals (simp <;> omega))) (fun hHeld => ?_)
   iterate 6 (apply SeqH.free; (· (simp only [z_0, z_1, z_2]; rfl)); (· first | exact Or.inr ⟨by rfl, rfl⟩ | (refine Or.inl ⟨by rfl, ?_⟩; intro w hSw; (try dsimp only at hSw); go_simp; try with_reducible rfl)); try simp only [Act.put, z_3, z_4, z_5])
   (apply SeqH.step; (· (simp only [z_0, z_1, z_2]; rfl)); intro K hK; go_simp; refine (HINp.out _).mono ?_; rintro e w3 ⟨rfl, hb3⟩; go_wp2_with fail; refine hK.out _ _ (pr_of (by (with_reducible (repeat' (first | exact z_r _ | assumption | refine z_d ?_ | refine z_n ?_ _ | refine z_a ?_ _ | refine z_s ?_ ?_ _ | refine z_t ?_ (by assumption)))); all_goals (simp <;> omega))) (fun hHeld => ?_); clear hK K; try simp only [Act.put, z_3, z_4, z_5])
   iterate 1 (apply SeqH.free; (· (simp only [z_0, z_1, z_2]; rfl)); (· first | exact Or.inr ⟨by rfl, rfl⟩ | (refine Or.inl ⟨by rfl, ?_⟩; intro w hSw; (try dsimp only at hSw); go_simp; try with_reducible rfl)); try simp only [Act.put, z_3, z_4, z_5])
   refine SeqH.done ?_
   have XE := hide hHeld.2
   clear hHeld
   cases ib
   ·have he := HAL.out rfl
    subst he
    go_wp2_with fail
    go_ret
    exact ⟨rfl, X1.out.trans (XR.out.trans XE.out)⟩
   ·go_wp2_with fail
    go_roundw
    case rel => exact ⟨k + 1, by omega, by go_num, by rw [HTK.out, HALL.out]; rfl, XR.out.trans XE.out⟩
    case measure => simp [intOf]; omega
  ·obtain rfl : m = k := by omega
   rw [List.take_of_length_le (by rw [LM.out]; exact Nat.le_refl _)] at HALL
   go_wp2_with fail
   go_loopw [9] (fun iv wy => ∃ k : Nat, k ≤ n ∧ iv = .int .i64 (k : Int) ∧ (∀ i, i < k → (decide (l'.getD i 0 = l.getD i 0) || cs.any fun c => idxN W c == i) = true) ∧ Ext w1 wy) (fun iv _ => n - (intOf iv).toNat)
   case atStart => exact ⟨0, Nat.zero_le _, rfl, (fun i h => by omega), XR.out⟩
   case round =>
    obtain ⟨k, hk, rfl, hall, hx⟩ := hrel
    have HKB := hide hall
    have XY := hide hx
    have zy := hx.size
    have FY := hide (F1.out.ext hx)
    have BY := hide (B1.out.ext hx)
    clear hall hx
    have x0 := FY.out.at 0 rfl; have x1 := FY.out.at 1 rfl; have x2 := FY.out.at 2 rfl; have xz := FY.out.lt
    have b0 := BY.out.at 0 rfl; have b1 := BY.out.at 1 rfl; have b2 := BY.out.at 2 rfl; have bz := BY.out.lt
    by_cases hlt : k < n
    ·have hkl : k < l'.length := by rw [LN.out]; exact hlt
     have hkl0 : k < l.length := by rw [HLL.out]; exact hkl
     obtain ⟨rb, ro, rfl, hrb, hrc⟩ := HR1.out (by omega)
     obtain ⟨sb, so, rfl, hsb, hsc⟩ := HR0.out (by omega)
     have d0 := ((X1.out.trans XY.out).cell (p := ⟨rb, ro + k, none⟩) hrb).trans (hrc k hkl)
     have d1 := ((X1.out.trans XY.out).cell (p := ⟨sb, so + k, none⟩) hsb).trans (hsc k hkl0)
     have z1 := X1.out.size
     have hrw : rb < wr.heap.size := by omega
     have hsw : sb < wr.heap.size := by omega
     have g1 : l'.getD k 0 = l'[k] := by simp [List.getD_eq_getElem?_getD, hkl]
     have g0 : l.getD k 0 = l[k] := by simp [List.getD_eq_getElem?_getD, hkl0]
     rw [← g1] at d0
     rw [← g0] at d1
     have jk : (k : Int) < (n : Int) := by omega
     have HNX := hide (fun (h : (decide (l'.getD k 0 = l.getD k 0) || cs.any fun c => idxN W c == k) = true) (i : Nat) (hi : i < k + 1) => (show (decide (l'.getD i 0 = l.getD i 0) || cs.any fun c => idxN W c == i) = true from by
      by_cases e : i = k
      ·subst e; exact h
      ·exact HKB.out i (by omega)))
     have HNO := hide (fun (h : (decide (l'.getD k 0 = l.getD k 0) || cs.any fun c => idxN W c == k) = false) => HARG.out HALL.out (by
      rw [HK.out, Bool.eq_false_iff]
      intro h2
      have := List.all_eq_true.1 h2 k (List.mem_range.2 hkl)
      rw [h] at this
      cases this))
     generalize l'.getD k 0 = u at *
     generalize l.getD k 0 = v at *
     clear hrc hsc hkl hkl0 g1 g0
     by_cases huv : u = v
     ·subst huv
      have hd : decide (u = u) = true := by simp
      go_wp2_with fail
      go_quiet (fail)
      go_wp2_with fail
      go_roundw
      case rel => exact ⟨k + 1, by omega, by go_num, HNX.out (by simp), by exact XY.out.drewN _⟩
      case measure => simp [intOf]; omega
     ·have hd : decide (u = v) = false := by simpa using huv
      have hbq : (u == v) = false := by simpa using huv
      rw [hd, Bool.false_or] at HNX HNO
      go_wp2_with fail
      go_quiet (fail)
      go_wp2_with fail
      go_loopw [10, 11] (fun nv jv wz => ∃ j : Nat, j ≤ m ∧ jv = .int .i64 (j : Int) ∧ nv = .bool ((cs.take j).any fun c => idxN W c == k) ∧ Ext w1 wz) (fun _ jv _ => m - (intOf jv).toNat)
      case atStart => exact ⟨0, Nat.zero_le _, rfl, rfl, by exact XY.out.drewN _⟩
      case round =>
       obtain ⟨j, hj, rfl, rfl, hx⟩ := hrel
       have XZ := hide hx
       have zz := hx.size
       have FZ := hide (F1.out.ext hx)
       clear hx
       by_cases hlj : j < m
       ·have hjl : j < cs.length := by rw [LM.out]; exact hlj
        obtain ⟨cb, co, rfl, hcb, hcc⟩ := HCS.out (by omega)
        obtain ⟨e0, e1⟩ := hcc j hjl
        have e0 := ((X1.out.trans XZ.out).cell (p := ⟨cb, co + j * 2, none⟩) hcb).trans e0
        have e1 := ((X1.out.trans XZ.out).cell (p := ⟨cb, co + j * 2 + 1, none⟩) hcb).trans e1
        have hbw : cb < wr.heap.size := by omega
        have HTJ := hide (any_take_snoc (p := fun c : Cell => idxN W c == k) hjl)
        have hin := List.all_eq_true.1 HALL.out cs[j] (List.getElem_mem hjl)
        generalize cs[j] = p at *
        obtain ⟨px, py⟩ := p
        simp only at e0 e1 hin
        have hpb := inB_true.1 hin
        have hix : ((idxN W (px, py) : Nat) : Int) = py * W + px := idx_int (by omega) (by omega) (by omega)
        have hpm : 0 ≤ py * W ∧ py * W ≤ 4294967296 := mul_bd (a := py) (b := W) (A := 65536) (B := 65536) (by omega) (by omega) (by omega) (by omega)
        have k1 : IntKind.i64.wrap (py * W) = py * W := IntWalk.i64_in _ (by omega)
        have k2 : IntKind.i64.wrap (py * W + px) = ((idxN W (px, py) : Nat) : Int) := by rw [IntWalk.i64_in _ (by omega)]; exact hix.symm
        have jj : (j : Int) < (m : Int) := by omega
        clear hcc hjl hin hpb hix hpm
        have x0 := FZ.out.at 0 rfl; have x1 := FZ.out.at 1 rfl; have x2 := FZ.out.at 2 rfl; have xz := FZ.out.lt
        generalize idxN W (px, py) = ix at *
        generalize ((cs.take j).any fun c => idxN W c == k) = nb at *
        cases nb
        ·by_cases hik : ix = k
         ·subst hik
          have hd2 : decide ((ix : Int) = (ix : Int)) = true := by simp
          go_wp2_with fail
          go_quiet (fail)
          go_wp2_with fail
          go_roundw
          case rel => exact ⟨j + 1, by omega, by go_num, by rw [HTJ.out]; simp, by exact XZ.out.drewN _⟩
          case measure => simp [intOf]; omega
         ·have hd2 : ¬ (ix : Int) = (k : Int) := by omega
          have hd3 : ((ix : Int) == (k : Int)) = false := by simpa using hd2
          go_wp2_with fail
          go_quiet (fail)
          go_wp2_with fail
          go_roundw
          case rel => exact ⟨j + 1, by omega, by go_num, by rw [HTJ.out]; simp [hik], by exact XZ.out.drewN _⟩
          case measure => simp [intOf]; omega
        ·go_wp2_with fail
         go_quiet (fail)
         go_wp2_with fail
         go_roundw
         case rel => exact ⟨j + 1, by omega, by go_num, by rw [HTJ.out]; simp, by exact XZ.out.drewN _⟩
         case measure => simp [intOf]; omega
       ·obtain rfl : m = j := by omega
        rw [List.take_of_length_le (show cs.length ≤ m by rw [LM.out]; exact Nat.le_refl _)]
        generalize (cs.any fun c => idxN W c == k) = nb at *
        cases nb
        ·have he := HNO.out rfl
         subst he
         go_wp2_with fail
         go_ret
         exact ⟨rfl, X1.out.trans XZ.out⟩
        ·go_wp2_with fail
         go_roundw
         case rel => exact ⟨k + 1, by omega, by go_num, HNX.out rfl, XZ.out⟩
         case measure => simp [intOf]; omega
    ·obtain rfl : n = k := by omega
     have he := HOKK.out HALL.out (by
      rw [HK.out]
      refine List.all_eq_true.2 fun i hi => HKB.out i ?_
      have := List.mem_range.1 hi
      rw [LN.out] at this
      exact this)
     subst he
     go_wp2_with fail
     go_ret
     exact ⟨rfl, X1.out.trans XY.out⟩

/-- A cluster is told. -/
def toldB (W H s : Int) (l l' : List Int) (cs : List Cell) (i : Nat) : Bool := (cs.any fun c => idC W s c == i) || !(decide (celA W H s l' (i : Int) = celA W H s l (i : Int)))
theorem toldU_succ (W H s : Int) (l l' : List Int) (cs : List Cell) (k : Nat) : toldU W H s l l' cs (k + 1) = toldU W H s l l' cs k ++ if toldB W H s l l' cs k = true then [(k : Int)] else [] := by
 unfold toldU
 rw [List.range_succ, List.filter_append, List.map_append]
 congr 1
 unfold toldB
 by_cases h : ((cs.any fun c => idC W s c == k) || !(decide (celA W H s l' (k : Int) = celA W H s l (k : Int)))) = true
 ·rw [if_pos h, List.filter_cons, if_pos h]; rfl
 ·rw [if_neg h, List.filter_cons, if_neg h]; rfl
theorem toldU_zero (W H s : Int) (l l' : List Int) (cs : List Cell) : toldU W H s l l' cs 0 = [] := rfl
theorem toldU_lenJ (W H s : Int) (l l' : List Int) (cs : List Cell) (N : Nat) : (toldU W H s l l' cs N).length ≤ N := by
 unfold toldU
 rw [List.length_map]
 exact Nat.le_trans (List.length_filter_le _ _) (by rw [List.length_range]; exact Nat.le_refl _)
theorem has_box {W H s : Int} (hr : rightB W H s = true) {c : Cell} (hi : inB W H c.1 c.2 = true) {k : Nat} (hk : (k : Int) < cnt W H s) : hasB (boxX W s (k : Int)) (boxY W s (k : Int)) (boxW W s (k : Int)) (boxH W H s (k : Int)) c.1 c.2 = (idC W s c == k) := by
 have h := hasP_box (W := W) (H := H) (s := s) (x := c.1) (y := c.2) hr hi (id := (k : Int)) (by omega) hk
 have h2 := idC_int hr hi
 have e : hasP c.1 c.2 (boxP W H s (k : Int)) = hasB (boxX W s (k : Int)) (boxY W s (k : Int)) (boxW W s (k : Int)) (boxH W H s (k : Int)) c.1 c.2 := rfl
 rw [e] at h
 rw [Bool.eq_iff_iff, h, beq_iff_eq]
 omega
theorem take_eq_snoc {α : Type} [DecidableEq α] {a b : List α} {k : Nat} (ha : k < a.length) (hb : k < b.length) : decide (a.take (k + 1) = b.take (k + 1)) = (decide (a.take k = b.take k) && decide (a[k] = b[k])) := by
 rw [Bool.eq_iff_iff, Bool.and_eq_true, decide_eq_true_eq, decide_eq_true_eq, decide_eq_true_eq]
 rw [List.take_add_one, List.take_add_one, List.getElem?_eq_getElem ha, List.getElem?_eq_getElem hb]
 simp only [Option.toList_some]
 constructor
 ·intro h
  have hl : (a.take k).length = (b.take k).length := by rw [List.length_take, List.length_take]; omega
  obtain ⟨h1, h2⟩ := List.append_inj h hl
  exact ⟨h1, by simpa using h2⟩
 ·rintro ⟨h1, h2⟩
  rw [h1, h2]

set_option maxRecDepth 100000 in
set_option maxHeartbeats 3000000 in
theorem anew_any {w : World} {q q' : RSpot} {R R' : Nat → Prop} {W H s : Int} {l l' : List Int} {N : Nat} (h : RefS w q R W H s l N) (h' : RefS w q' R' W H s l' N) {ca : Option Addr} {cs : List Cell} (cc : Nat) (hc : RowC w ca cs) (hm : cs.length ≤ 1000000) (hin : (cs.all fun c => inB W H c.1 c.2) = true)
  (hg1 : (gatesA W H s l).length ≤ 50000) (hg2 : (gatesA W H s l').length ≤ 50000) :
  Calls Tryz.prog 28 #[.pointer (some ⟨q.b, 0, none⟩), .pointer (some ⟨q'.b, 0, none⟩), .slice ca cs.length cc] w fun e w' => ∃ v, e = .returned v ∧ Ext w w' ∧ Own intE w' w.heap.size 3 v (toldU W H s l l' cs N) := by
 have hg := h.good
 have hN := h.num
 have hN2 : N ≤ 65536 := by have := hg.cnt; omega
 have BB := hide h.blk
 have BB' := hide h'.blk
 unfold refCells at BB BB'
 have HCS := hide hc
 have HIN := hide hin
 have HWB := hide (show (1 ≤ W ∧ W ≤ 65536) ∧ 1 ≤ H ∧ H ≤ 65536 by
  obtain ⟨hmay, _⟩ := checkE_ok.1 hg.ok
  obtain ⟨a, b, c, d⟩ := mayB_true.1 hmay
  omega)
 have HAT := hide (fun (k : Nat) (hk : k < N) => boxesAll_at hg.right k (show (k : Int) < cnt W H s by omega))
 have HHS : Hid (∀ (w' : World) (k : Nat) (c : Cell), k < N → inB W H c.1 c.2 = true → Calls Tryz.prog 73 #[.agg #[.int .i64 (boxX W s (k : Int)), .int .i64 (boxY W s (k : Int)), .int .i64 (boxW W s (k : Int)), .int .i64 (boxH W H s (k : Int))], .agg #[.int .i64 c.1, .int .i64 c.2]] w' fun e w'' => e = .returned (.bool (idC W s c == k)) ∧ Ext w' w'') := hide (fun w' k c hk hi => by
  have hbd := box_bd hg.right (show (0 : Int) ≤ (k : Int) by omega) (show (k : Int) < cnt W H s by omega)
  have hcb := inB_true.1 hi
  rw [← has_box hg.right hi (show (k : Int) < cnt W H s by omega)]
  exact rHas_any _ _ _ _ c.1 c.2 w' (by omega) (by omega) (by unfold InI; omega) (by unfold InI; omega))
 have HCE : Hid (∀ (w' : World) (L : List (Cell × Cell)) (v : Value) (k : Nat), k < N → L.length ≤ 50000 → Reads pairE w' v L → Calls Tryz.prog 68 #[v, .agg #[.int .i64 (boxX W s (k : Int)), .int .i64 (boxY W s (k : Int)), .int .i64 (boxW W s (k : Int)), .int .i64 (boxH W H s (k : Int))]] w' (RetCells w' (cellsL W H s (k : Int) L))) := hide (fun w' L v k hk hs o => by
  have hk0 : (0 : Int) ≤ (k : Int) ∧ (k : Int) < cnt W H s := ⟨by omega, by omega⟩
  have hbd := box_bd hg.right hk0.1 hk0.2
  have hsz := box_sz hg.right hk0.1 hk0.2
  obtain ⟨r1, r2, r3, r4, r5, r6⟩ := rightB_true.1 hg.right
  exact r12Cells_any L v _ _ _ _ w' hs o (by omega) (by omega) (by omega) (by omega))
 have HCA := hide (fun (w' : World) (v : Value) (k : Nat) (hk : k < N) (o : Reads pairE w' v (gatesA W H s l)) => (show Calls Tryz.prog 68 _ w' (RetCells w' (celA W H s l (k : Int))) from HCE.out w' _ v k hk hg1 o))
 have HCB := hide (fun (w' : World) (v : Value) (k : Nat) (hk : k < N) (o : Reads pairE w' v (gatesA W H s l')) => (show Calls Tryz.prog 68 _ w' (RetCells w' (celA W H s l' (k : Int))) from HCE.out w' _ v k hk hg2 o))
 have HCL := hide (fun (k : Nat) (hk : k < N) => (⟨celA_len (l := l) hg (id := (k : Int)) ⟨by omega, by omega⟩, celA_len (l := l') h'.good (id := (k : Int)) ⟨by omega, by omega⟩⟩ : (celA W H s l (k : Int)).length ≤ 256 ∧ (celA W H s l' (k : Int)).length ≤ 256))
 have HBO := hide h.boxes
 have HBO' := hide h'.boxes
 have HGO := hide h.gates
 have HGO' := hide h'.gates
 obtain ⟨ba, bc, hbv⟩ := h.boxes.slice
 obtain ⟨ba', bc', hbv'⟩ := h'.boxes.slice
 have hNb : (boxesAll W H s).length = N := by have := boxesAll_len hg.right; omega
 rw [hNb] at hbv hbv'
 rw [hbv] at BB HBO
 rw [hbv'] at BB' HBO'
 obtain ⟨gv, hgv⟩ : ∃ z, q.gv = z := ⟨_, rfl⟩
 obtain ⟨gv', hgv'⟩ : ∃ z, q'.gv = z := ⟨_, rfl⟩
 rw [hgv] at BB HGO
 rw [hgv'] at BB' HGO'
 obtain ⟨qb, hqb⟩ : ∃ z, q.b = z := ⟨_, rfl⟩
 obtain ⟨qb', hqb'⟩ : ∃ z, q'.b = z := ⟨_, rfl⟩
 rw [hqb] at BB ⊢
 rw [hqb'] at BB' ⊢
 obtain ⟨m, hmm⟩ : ∃ z, cs.length = z := ⟨_, rfl⟩
 have LM := hide hmm
 rw [hmm] at hm ⊢
 clear h h' hg hN hc hin hbv hbv' hgv hgv' hqb hqb' hNb hmm HCE hg1 hg2
 go_enter Tryz.func28, Tryz.ntmps28
 go_wp2_with fail
 go_loopw [7, 8] (fun ov iv wr => ∃ k : Nat, k ≤ N ∧ iv = .int .i64 (k : Int) ∧ Own intE wr w.heap.size 3 ov (toldU W H s l l' cs k) ∧ Ext w wr) (fun _ iv _ => N - (intOf iv).toNat)
 case atStart => exact ⟨0, Nat.zero_le _, rfl, Own.lit0 intE w _ _ _ rfl (Nat.le_refl _), (by (with_reducible (repeat' (first | exact z_r _ | assumption | refine z_d ?_ | refine z_n ?_ _ | refine z_a ?_ _ | refine z_s ?_ ?_ _ | refine z_t ?_ (by assumption)))); all_goals (simp <;> omega))⟩
 case round =>
  obtain ⟨k, hk, rfl, ho, hx⟩ := hrel
  have OR := hide ho
  have XR := hide hx
  have zr := hx.size
  have BR := hide (BB.out.ext hx)
  clear ho hx
  have b2 := BR.out.at 4 rfl
  have bz := BR.out.lt
  by_cases hlt : k < N
  ·have jk : (k : Int) < (N : Int) := by omega
   go_wp2_with fail
   go_loopw [9, 10] (fun nv jv wy => ∃ j : Nat, j ≤ m ∧ jv = .int .i64 (j : Int) ∧ nv = .bool ((cs.take j).any fun c => idC W s c == k) ∧ Ext wr wy) (fun _ jv _ => m - (intOf jv).toNat)
   case atStart => exact ⟨0, Nat.zero_le _, rfl, rfl, Ext.refl _⟩
   case round =>
    obtain ⟨j, hj, rfl, rfl, hx⟩ := hrel
    have XY := hide hx
    have zy := hx.size
    have BY := hide (BR.out.ext hx)
    have XW := hide (XR.out.trans hx)
    clear hx b2 bz
    have b4 := BY.out.at 4 rfl
    have b5 := BY.out.at 5 rfl
    have bz := BY.out.lt
    obtain ⟨pb, hpe, hpb, p0, p1, p2, p3⟩ := own_box_at (HBO.out.ext XW.out) (HAT.out k hlt)
    subst hpe
    rw [show (boxP W H s (k : Int)).1.1 = boxX W s (k : Int) from rfl] at p0
    rw [show (boxP W H s (k : Int)).1.2 = boxY W s (k : Int) from rfl] at p1
    rw [show (boxP W H s (k : Int)).2.1 = boxW W s (k : Int) from rfl] at p2
    rw [show (boxP W H s (k : Int)).2.2 = boxH W H s (k : Int) from rfl] at p3
    by_cases hlj : j < m
    ·have hjl : j < cs.length := by rw [LM.out]; exact hlj
     obtain ⟨cb, co, rfl, hcb, hcc⟩ := HCS.out (by omega)
     obtain ⟨e0, e1⟩ := hcc j hjl
     have e0 := (XW.out.cell (p := ⟨cb, co + j * 2, none⟩) hcb).trans e0
     have e1 := (XW.out.cell (p := ⟨cb, co + j * 2 + 1, none⟩) hcb).trans e1
     have hbw : cb < wr.heap.size := by omega
     have HTJ := hide (any_take_snoc (p := fun c : Cell => idC W s c == k) hjl)
     have hi := List.all_eq_true.1 HIN.out cs[j] (List.getElem_mem hjl)
     have HH := hide (fun w' => HHS.out w' k cs[j] hlt hi)
     generalize cs[j] = p at *
     obtain ⟨px, py⟩ := p
     simp only at e0 e1 HH
     have jj : (j : Int) < (m : Int) := by omega
     clear hcc hjl hi
     generalize boxX W s (k : Int) = qx at *
     generalize boxY W s (k : Int) = qy at *
     generalize boxW W s (k : Int) = qw at *
     generalize boxH W H s (k : Int) = qh at *
     generalize (idC W s (px, py) == k) = hb at *
     generalize ((cs.take j).any fun c => idC W s c == k) = nb at *
     cases nb
     ·go_wp2_with fail
      refine seqH_start (S := (fun W => (∀ b o, b < wr.heap.size → W.cell? ⟨b, o, none⟩ = wr.cell? ⟨b, o, none⟩) ∧ Ext wr W)) [(0, true), (1, true), (2, true), (3, true), (4, true), (5, true), (6, true), (7, true), (8, true), (9, true), (10, true), (11, true), (12, true), (13, false), (14, true), (15, true)] (by kernel_rfl) (by kernel_rfl) (by kernel_rfl) (by decide) (fun _ _ d _ _ h => by cases d <;> exact h) (by first | with_reducible exact pr_start _ | exact pr_of (by (with_reducible (repeat' (first | exact z_r _ | assumption | refine z_d ?_ | refine z_n ?_ _ | refine z_a ?_ _ | refine z_s ?_ ?_ _ | refine z_t ?_ (by assumption)))); all_goals (simp <;> omega))) (fun hHeld => ?_)
      iterate 13 (apply SeqH.free; (· (simp only [z_0, z_1, z_2]; rfl)); (· first | exact Or.inr ⟨by rfl, rfl⟩ | (refine Or.inl ⟨by rfl, ?_⟩; intro w hSw; (try dsimp only at hSw); go_simp; try with_reducible rfl)); try simp only [Act.put, z_3, z_4, z_5])
      (apply SeqH.step; (· (simp only [z_0, z_1, z_2]; rfl)); intro K hK; go_simp; refine (HH.out _).mono ?_; rintro e w3 ⟨rfl, hb3⟩; go_wp2_with fail; refine hK.out _ _ (pr_of (by (with_reducible (repeat' (first | exact z_r _ | assumption | refine z_d ?_ | refine z_n ?_ _ | refine z_a ?_ _ | refine z_s ?_ ?_ _ | refine z_t ?_ (by assumption)))); all_goals (simp <;> omega))) (fun hHeld => ?_); clear hK K; try simp only [Act.put, z_3, z_4, z_5])
      iterate 2 (apply SeqH.free; (· (simp only [z_0, z_1, z_2]; rfl)); (· first | exact Or.inr ⟨by rfl, rfl⟩ | (refine Or.inl ⟨by rfl, ?_⟩; intro w hSw; (try dsimp only at hSw); go_simp; try with_reducible rfl)); try simp only [Act.put, z_3, z_4, z_5])
      refine SeqH.done ?_
      have XE := hide hHeld.2
      clear hHeld
      go_wp2_with fail
      go_roundw
      case rel => exact ⟨j + 1, by omega, by go_num, by rw [HTJ.out]; simp, XY.out.trans XE.out⟩
      case measure => simp [intOf]; omega
     ·go_wp2_with fail
      refine seqH_start (S := (fun W => (∀ b o, b < wr.heap.size → W.cell? ⟨b, o, none⟩ = wr.cell? ⟨b, o, none⟩) ∧ Ext wr W)) [(0, true), (1, true), (2, true), (3, true), (4, true), (5, true), (6, true), (7, true), (8, true), (9, true), (10, true), (11, true), (12, true), (13, true), (14, true), (15, true)] (by kernel_rfl) (by kernel_rfl) (by kernel_rfl) (by decide) (fun _ _ d _ _ h => by cases d <;> exact h) (by first | with_reducible exact pr_start _ | exact pr_of (by (with_reducible (repeat' (first | exact z_r _ | assumption | refine z_d ?_ | refine z_n ?_ _ | refine z_a ?_ _ | refine z_s ?_ ?_ _ | refine z_t ?_ (by assumption)))); all_goals (simp <;> omega))) (fun hHeld => ?_)
      iterate 16 (apply SeqH.free; (· (simp only [z_0, z_1, z_2]; rfl)); (· first | exact Or.inr ⟨by rfl, rfl⟩ | (refine Or.inl ⟨by rfl, ?_⟩; intro w hSw; (try dsimp only at hSw); go_simp; try with_reducible rfl)); try simp only [Act.put, z_3, z_4, z_5])
      refine SeqH.done ?_
      have XE := hide hHeld.2
      clear hHeld
      go_wp2_with fail
      go_roundw
      case rel => exact ⟨j + 1, by omega, by go_num, by rw [HTJ.out]; simp, XY.out.trans XE.out⟩
      case measure => simp [intOf]; omega
    ·obtain rfl : m = j := by omega
     rw [List.take_of_length_le (show cs.length ≤ m by rw [LM.out]; exact Nat.le_refl _)]
     have HTS := hide (toldU_succ W H s l l' cs k)
     have HTB := hide (show toldB W H s l l' cs k = ((cs.any fun c => idC W s c == k) || !(decide (celA W H s l' (k : Int) = celA W H s l (k : Int)))) from rfl)
     have HCLk := hide (HCL.out k hlt)
     have HA := hide (fun (w' : World) (o : Reads pairE w' gv (gatesA W H s l)) => HCA.out w' gv k hlt o)
     have HB := hide (fun (w' : World) (o : Reads pairE w' gv' (gatesA W H s l')) => HCB.out w' gv' k hlt o)
     have BY' := hide (BB'.out.ext XW.out)
     have b4' := BY'.out.at 4 rfl
     have b5' := BY'.out.at 5 rfl
     have bz' := BY'.out.lt
     obtain ⟨pb', hpe', hpb', p0', p1', p2', p3'⟩ := own_box_at (HBO'.out.ext XW.out) (HAT.out k hlt)
     subst hpe'
     rw [show (boxP W H s (k : Int)).1.1 = boxX W s (k : Int) from rfl] at p0'
     rw [show (boxP W H s (k : Int)).1.2 = boxY W s (k : Int) from rfl] at p1'
     rw [show (boxP W H s (k : Int)).2.1 = boxW W s (k : Int) from rfl] at p2'
     rw [show (boxP W H s (k : Int)).2.2 = boxH W H s (k : Int) from rfl] at p3'
     generalize boxX W s (k : Int) = qx at *
     generalize boxY W s (k : Int) = qy at *
     generalize boxW W s (k : Int) = qw at *
     generalize boxH W H s (k : Int) = qh at *
     generalize celA W H s l (k : Int) = A at *
     generalize celA W H s l' (k : Int) = B at *
     generalize (cs.any fun c => idC W s c == k) = nb at *
     obtain ⟨u, hu⟩ : ∃ z, A.length = z := ⟨_, rfl⟩
     obtain ⟨v, hv⟩ : ∃ z, B.length = z := ⟨_, rfl⟩
     have LU := hide hu
     have LV := hide hv
     clear hu hv
     have hu256 : u ≤ 256 := by have h := HCLk.out.1; rw [LU.out] at h; exact h
     have hv256 : v ≤ 256 := by have h := HCLk.out.2; rw [LV.out] at h; exact h
     go_wp2_with fail
     refine seqH_start (S := (fun W => (∀ b o, b < wr.heap.size → W.cell? ⟨b, o, none⟩ = wr.cell? ⟨b, o, none⟩) ∧ Ext wr W)) [(0, true), (1, true), (2, true), (3, true), (4, true), (5, true), (6, true), (7, true), (8, true), (9, true), (10, true), (11, false), (12, true)] (by kernel_rfl) (by kernel_rfl) (by kernel_rfl) (by decide) (fun _ _ d _ _ h => by cases d <;> exact h) (by first | with_reducible exact pr_start _ | exact pr_of (by (with_reducible (repeat' (first | exact z_r _ | assumption | refine z_d ?_ | refine z_n ?_ _ | refine z_a ?_ _ | refine z_s ?_ ?_ _ | refine z_t ?_ (by assumption)))); all_goals (simp <;> omega))) (fun hHeld => ?_)
     iterate 11 (apply SeqH.free; (· (simp only [z_0, z_1, z_2]; rfl)); (· first | exact Or.inr ⟨by rfl, rfl⟩ | (refine Or.inl ⟨by rfl, ?_⟩; intro w hSw; (try dsimp only at hSw); go_simp; try with_reducible rfl)); try simp only [Act.put, z_3, z_4, z_5])
     (apply SeqH.step; (· (simp only [z_0, z_1, z_2]; rfl)); intro K hK; go_simp; refine (HA.out _ (HGO.out.reads.ext (XW.out.trans (by (with_reducible (repeat' (first | exact z_r _ | assumption | refine z_d ?_ | refine z_n ?_ _ | refine z_a ?_ _ | refine z_s ?_ ?_ _ | refine z_t ?_ (by assumption)))); all_goals (simp <;> omega))))).mono ?_; rintro e w3 ⟨va, rfl, x3, o3⟩; have O3 := hide o3; clear o3; go_wp2_with fail; refine hK.out _ _ (pr_of (by (with_reducible (repeat' (first | exact z_r _ | assumption | refine z_d ?_ | refine z_n ?_ _ | refine z_a ?_ _ | refine z_s ?_ ?_ _ | refine z_t ?_ (by assumption)))); all_goals (simp <;> omega))) (fun hHeld => ?_); clear hK K; try simp only [Act.put, z_3, z_4, z_5])
     iterate 1 (apply SeqH.free; (· (simp only [z_0, z_1, z_2]; rfl)); (· first | exact Or.inr ⟨by rfl, rfl⟩ | (refine Or.inl ⟨by rfl, ?_⟩; intro w hSw; (try dsimp only at hSw); go_simp; try with_reducible rfl)); try simp only [Act.put, z_3, z_4, z_5])
     refine SeqH.done ?_
     have X3 := hide hHeld.2
     obtain ⟨aa, ac, hva⟩ := O3.out.slice
     rw [hva] at O3 ⊢
     have d4' := (X3.out.cell (p := ⟨qb', 4, none⟩) bz').trans b4'
     have d5' := (X3.out.cell (p := ⟨qb', 5, none⟩) bz').trans b5'
     have g0' := (X3.out.cell (p := ⟨pb', k * 4, none⟩) hpb').trans p0'
     have g1' := (X3.out.cell (p := ⟨pb', k * 4 + 1, none⟩) hpb').trans p1'
     have g2' := (X3.out.cell (p := ⟨pb', k * 4 + 2, none⟩) hpb').trans p2'
     have g3' := (X3.out.cell (p := ⟨pb', k * 4 + 3, none⟩) hpb').trans p3'
     have z3 := X3.out.size
     have bz3 : qb' < w3.heap.size := by omega
     have pz3 : pb' < w3.heap.size := by omega
     rw [LU.out] at O3 ⊢
     clear hHeld x3 hva b4 b5 bz p0 p1 p2 p3 hpb b4' b5' bz' p0' p1' p2' p3' hpb'
     go_wp2_with fail
     refine seqH_start (S := (fun W => (∀ b o, b < w3.heap.size → W.cell? ⟨b, o, none⟩ = w3.cell? ⟨b, o, none⟩) ∧ Ext w3 W)) [(0, true), (1, true), (2, true), (3, true), (4, true), (5, true), (6, true), (7, true), (8, true), (9, true), (10, true), (11, false), (12, true)] (by kernel_rfl) (by kernel_rfl) (by kernel_rfl) (by decide) (fun _ _ d _ _ h => by cases d <;> exact h) (by first | with_reducible exact pr_start _ | exact pr_of (by (with_reducible (repeat' (first | exact z_r _ | assumption | refine z_d ?_ | refine z_n ?_ _ | refine z_a ?_ _ | refine z_s ?_ ?_ _ | refine z_t ?_ (by assumption)))); all_goals (simp <;> omega))) (fun hHeld => ?_)
     iterate 11 (apply SeqH.free; (· (simp only [z_0, z_1, z_2]; rfl)); (· first | exact Or.inr ⟨by rfl, rfl⟩ | (refine Or.inl ⟨by rfl, ?_⟩; intro w hSw; (try dsimp only at hSw); go_simp; try with_reducible rfl)); try simp only [Act.put, z_3, z_4, z_5])
     (apply SeqH.step; (· (simp only [z_0, z_1, z_2]; rfl)); intro K hK; go_simp; refine (HB.out _ (HGO'.out.reads.ext ((XW.out.trans X3.out).trans (by (with_reducible (repeat' (first | exact z_r _ | assumption | refine z_d ?_ | refine z_n ?_ _ | refine z_a ?_ _ | refine z_s ?_ ?_ _ | refine z_t ?_ (by assumption)))); all_goals (simp <;> omega))))).mono ?_; rintro e w4 ⟨vb, rfl, x4, o4⟩; have O4 := hide o4; clear o4; go_wp2_with fail; refine hK.out _ _ (pr_of (by (with_reducible (repeat' (first | exact z_r _ | assumption | refine z_d ?_ | refine z_n ?_ _ | refine z_a ?_ _ | refine z_s ?_ ?_ _ | refine z_t ?_ (by assumption)))); all_goals (simp <;> omega))) (fun hHeld => ?_); clear hK K; try simp only [Act.put, z_3, z_4, z_5])
     iterate 1 (apply SeqH.free; (· (simp only [z_0, z_1, z_2]; rfl)); (· first | exact Or.inr ⟨by rfl, rfl⟩ | (refine Or.inl ⟨by rfl, ?_⟩; intro w hSw; (try dsimp only at hSw); go_simp; try with_reducible rfl)); try simp only [Act.put, z_3, z_4, z_5])
     refine SeqH.done ?_
     have X4 := hide hHeld.2
     obtain ⟨ab, bc4, hvb⟩ := O4.out.slice
     rw [hvb] at O4 ⊢
     rw [LV.out] at O4 ⊢
     have O3b := hide (O3.out.ext X4.out)
     have XW4 := hide ((XY.out.trans X3.out).trans X4.out)
     have z4 := X4.out.size
     clear hHeld x4 hvb d4' d5' g0' g1' g2' g3' O3
     obtain ⟨b0, hb0⟩ : ∃ z, (nb || !(decide ((u : Int) = (v : Int)))) = z := ⟨_, rfl⟩
     have HB0 := hide hb0
     have HFIN := hide (fun (j : Nat) (hj1 : j ≤ u) (hj2 : j ≤ v) (hj : j = u ∨ j = v) => (show (b0 || !(decide (A.take j = B.take j))) = toldB W H s l l' cs k from by
      rw [HTB.out, ← HB0.out]
      by_cases huv : u = v
      ·have e1 : A.take j = A := List.take_of_length_le (by rw [LU.out]; omega)
       have e2 : B.take j = B := List.take_of_length_le (by rw [LV.out]; omega)
       rw [e1, e2]
       have hd : decide ((u : Int) = (v : Int)) = true := decide_eq_true (by omega)
       rw [hd, show decide (B = A) = decide (A = B) from decide_eq_decide.2 ⟨Eq.symm, Eq.symm⟩]
       cases nb <;> rfl
      ·have hd : decide ((u : Int) = (v : Int)) = false := by simp; omega
       have hd2 : decide (B = A) = false := by
        rw [decide_eq_false_iff_not]
        intro e
        apply huv
        rw [← LU.out, ← LV.out, e]
       rw [hd, hd2]
       cases nb <;> simp))
     have HGO13 : Hid (∀ (j : Nat) (hj : j < A.length) (hj2 : j < B.length), (b0 || !(decide (A.take (j + 1) = B.take (j + 1)))) = ((b0 || !(decide (A.take j = B.take j))) || !(decide (A[j] = B[j])))) := hide (fun j hj hj2 => by
      rw [take_eq_snoc hj hj2]
      cases b0 <;> cases decide (A.take j = B.take j) <;> cases decide (A[j] = B[j]) <;> rfl)
     have hup : (0 : Int) ≤ (u : Int) := by omega
     have hdn : (((u : Int) != (v : Int)) = !(decide ((u : Int) = (v : Int)))) := by
      by_cases e : (u : Int) = (v : Int) <;> simp [e]
     have HNB := hide hb0
     clear hb0
     have hcase : (nb = false ∧ (u : Int) = (v : Int)) ∨ (nb = false ∧ ¬ (u : Int) = (v : Int)) ∨ nb = true := by
      cases nb
      ·by_cases huv : (u : Int) = (v : Int)
       ·exact .inl ⟨rfl, huv⟩
       ·exact .inr (.inl ⟨rfl, huv⟩)
      ·exact .inr (.inr rfl)
     have hb0v : (nb = false ∧ (u : Int) = (v : Int) ∧ b0 = false) ∨ (nb = false ∧ ¬ (u : Int) = (v : Int) ∧ b0 = true) ∨ (nb = true ∧ b0 = true) := by
      have h := HNB.out
      rcases hcase with ⟨h1, h2⟩ | ⟨h1, h2⟩ | h1
      ·left; refine ⟨h1, h2, ?_⟩; rw [← h, h1]; simp [h2]
      ·right; left; refine ⟨h1, h2, ?_⟩; rw [← h, h1]; simp [h2]
      ·right; right; refine ⟨h1, ?_⟩; rw [← h, h1]; rfl
     clear hcase HNB HB0 hup
     rcases hb0v with ⟨h1, h2, h3⟩ | ⟨h1, h2, h3⟩ | ⟨h1, h3⟩
     all_goals
      subst h1
      have HB0 := hide h3
      (try (have hd := hdn; rw [show decide ((u : Int) = (v : Int)) = true by simpa using h2] at hd; have hd2 : decide ((u : Int) = (v : Int)) = true := by simpa using h2))
      (try (have hd := hdn; rw [show decide ((u : Int) = (v : Int)) = false by simpa using h2] at hd; have hd2 : decide ((u : Int) = (v : Int)) = false := by simpa using h2))
      clear h3 hdn HTB
      go_wp2_with fail
      go_loopw [9, 13] (fun nv jv wz => ∃ j : Nat, j ≤ u ∧ j ≤ v ∧ jv = .int .i64 (j : Int) ∧ nv = .bool (b0 || !(decide (A.take j = B.take j))) ∧ Ext w4 wz) (fun _ jv _ => u - (intOf jv).toNat)
      case atStart => exact ⟨0, Nat.zero_le _, Nat.zero_le _, rfl, by rw [HB0.out]; simp, Ext.refl _⟩
      case round =>
       obtain ⟨j, hj1, hj2, rfl, rfl, hx⟩ := hrel
       have XZ := hide hx
       have zz := hx.size
       clear hx
       by_cases hlj : j < u ∧ j < v
       ·obtain ⟨hlu, hlv⟩ := hlj
        have hju : j < A.length := by rw [LU.out]; exact hlu
        have hjv : j < B.length := by rw [LV.out]; exact hlv
        obtain ⟨ca2, co2, rfl, hca2, f0, f1⟩ := readsC_at (O3b.out.reads.ext XZ.out) (List.getElem?_eq_getElem hju)
        obtain ⟨cb2, cob, rfl, hcb2, f0', f1'⟩ := readsC_at (O4.out.reads.ext XZ.out) (List.getElem?_eq_getElem hjv)
        have HST := hide (HGO13.out j hju hjv)
        generalize A[j] = pa at *
        generalize B[j] = pb2 at *
        have ju : (j : Int) < (u : Int) := by omega
        have jv : (j : Int) < (v : Int) := by omega
        have hqc : ∀ w, (Op.equalIn 10000 69 (.agg #[.int .i64 pa.1, .int .i64 pa.2]) (.agg #[.int .i64 pb2.1, .int .i64 pb2.2])).run Tryz.prog w = .ok (decide (pa = pb2)) w := fun w => by
         rw [eq_cell pa pb2 w]
         congr 1
         unfold cellB
         rw [Bool.eq_iff_iff, Bool.and_eq_true, beq_iff_eq, beq_iff_eq, decide_eq_true_eq]
         exact ⟨fun h => Prod.ext h.1 h.2, fun h => by rw [h]; exact ⟨rfl, rfl⟩⟩
        generalize decide (pa = pb2) = ec at *
        generalize (b0 || !(decide (A.take j = B.take j))) = nv at *
        clear hju hjv hlu hlv
        cases nv
        all_goals
         go_wp2_with fail
         go_quiet (fail)
         go_wp2_with fail
         go_roundw
         case rel => exact ⟨j + 1, by omega, by omega, by go_num, by rw [HST.out]; cases ec <;> rfl, by exact XZ.out.drewN _⟩
         case measure => simp [intOf]; omega
       ·rw [HFIN.out j hj1 hj2 (by omega)]
        have XR2 := hide (XR.out.trans (XW4.out.trans XZ.out))
        have OR2 := hide (OR.out.ext (XW4.out.trans XZ.out))
        have HTLn := hide (toldU_lenJ W H s l l' cs k)
        have zR2 := XR2.out.size
        have hend : j = u ∨ (j = v ∧ (j : Int) < (u : Int)) ∨ (j = v ∧ ¬ (j : Int) < (u : Int)) := by omega
        rcases hend with rfl | ⟨rfl, hju⟩ | ⟨rfl, hju⟩
        all_goals (try (exfalso; omega))
        all_goals
         cases htb : toldB W H s l l' cs k
         ·have HTS0 := hide (show toldU W H s l l' cs (k + 1) = toldU W H s l l' cs k by rw [HTS.out, htb]; simp)
          clear htb HTS
          go_wp2_with fail
          go_roundw
          case rel => exact ⟨k + 1, by omega, by go_num, by rw [HTS0.out]; exact OR2.out, XR2.out⟩
          case measure => simp [intOf]; omega
         ·have HTS0 := hide (show toldU W H s l l' cs (k + 1) = toldU W H s l l' cs k ++ [(k : Int)] by rw [HTS.out, htb]; simp)
          clear htb HTS
          go_wp2_with (at_builtin; refine wpList_app intE T_ints rfl _ _ rfl w.heap.size _ _ (toldU W H s l l' cs k) rfl OR2.out (k : Int) _ _ rfl _ rfl rfl (by have := HTLn.out; omega) (by have := HTLn.out; omega) (by omega) ?_; intro g9 c9 w9 o9 b9; have O9 := hide o9; have X9 := hide (XR2.out.of_below b9 (Nat.le_refl _)); clear o9 b9)
          go_roundw
          case rel => exact ⟨k + 1, by omega, by go_num, by rw [HTS0.out]; exact O9.out, X9.out⟩
          case measure => simp [intOf]; omega
  ·obtain rfl : N = k := by omega
   go_wp2_with fail
   go_ret
   exact ⟨_, rfl, XR.out, OR.out⟩
end Go.Proofs.YtkioohhjjdlhiaaGreat
