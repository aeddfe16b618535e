/- The reference's Cells; the law's comparison of cells. -/
import Derived.Test.YtkioohhjjdlhiaaGreatSortI
import Derived.Test.YtkioohhjjdlhiaaGreatCmpW
import Derived.Test.YtkioohhjjdlhiaaGreatRefG
import Derived.Deep.CutBlock
set_option linter.all false
set_option linter.unusedVariables false
set_option linter.unusedSimpArgs false
namespace Go.Proofs.YtkioohhjjdlhiaaGreat
open Go.RowKit

theorem boxCells_succ (bx byy bw : Int) (j : Nat) : ((List.range (j + 1)).flatMap fun j : Nat => boxRow bx bw (byy + (j : Int))) = ((List.range j).flatMap fun j : Nat => boxRow bx bw (byy + (j : Int))) ++ boxRow bx bw (byy + (j : Int)) := by
 rw [List.range_succ, List.flatMap_append]; simp
/-- What was found up to a row, up to a cell. -/
def foundR (bx byy bw : Int) (L : List (Cell × Cell)) (j : Nat) : List Cell := ((List.range j).flatMap fun j : Nat => boxRow bx bw (byy + (j : Int))).filter (gIn L)
def foundC (bx y : Int) (L : List (Cell × Cell)) (i : Nat) : List Cell := ((List.range i).map fun i : Nat => (bx + (i : Int), y)).filter (gIn L)
theorem foundC_succ (bx y : Int) (L : List (Cell × Cell)) (i : Nat) : foundC bx y L (i + 1) = foundC bx y L i ++ if gIn L (bx + (i : Int), y) = true then [(bx + (i : Int), y)] else [] := by
 unfold foundC
 rw [List.range_succ, List.map_append, List.filter_append]
 congr 1
 by_cases h : gIn L (bx + (i : Int), y) = true
 ·simp [h]
 ·simp [h]
theorem foundR_succ (bx byy bw : Int) (L : List (Cell × Cell)) (j : Nat) : foundR bx byy bw L (j + 1) = foundR bx byy bw L j ++ foundC bx (byy + (j : Int)) L bw.toNat := by
 unfold foundR foundC
 rw [boxCells_succ, List.filter_append]
 rfl
theorem foundC_len (bx y : Int) (L : List (Cell × Cell)) (i : Nat) : (foundC bx y L i).length ≤ i := by
 unfold foundC
 exact Nat.le_trans (List.length_filter_le _ _) (by simp)
theorem foundR_len (bx byy bw : Int) (L : List (Cell × Cell)) (j : Nat) : (foundR bx byy bw L j).length ≤ j * bw.toNat := by
 induction j with
 | zero => simp [foundR]
 | succ j ih =>
  rw [foundR_succ, List.length_append, Nat.add_mul, Nat.one_mul]
  have := foundC_len bx (byy + (j : Int)) L bw.toNat
  omega
theorem gIn_takeR {L : List (Cell × Cell)} {k : Nat} {g : Cell × Cell} (hg : L[k]? = some g) (c : Cell) : gIn (L.take (k + 1)) c = (gIn (L.take k) c || (cellB g.1 c || cellB g.2 c)) := by
 unfold gIn
 rw [List.take_add_one, hg, List.any_append]
 simp

def RetCells (w : World) (L : List Cell) (e : Ending) (w' : World) : Prop := ∃ v, e = .returned v ∧ Ext w w' ∧ Own cellE w' w.heap.size 69 v L

set_option maxRecDepth 100000 in
set_option maxHeartbeats 2000000 in
theorem r12Cells_any (L : List (Cell × Cell)) (v : Value) (bx byy bw bh : Int) (w : World) (hl : L.length ≤ 50000) (hL : Reads pairE w v L) (b1 : 0 ≤ bx ∧ bx ≤ 1000) (b2 : 0 ≤ byy ∧ byy ≤ 1000) (b3 : 0 ≤ bw ∧ bw ≤ 1000) (b4 : 0 ≤ bh ∧ bh ≤ 1000) :
  Calls Tryz.prog 68 #[v, .agg #[.int .i64 bx, .int .i64 byy, .int .i64 bw, .int .i64 bh]] w (RetCells w (cellsB bx byy bw bh L)) := by
 have HF := hide (show cellsB bx byy bw bh L = foundR bx byy bw L bh.toNat from rfl)
 obtain ⟨bx0, bx1⟩ := b1
 obtain ⟨by0, by1⟩ := b2
 obtain ⟨bw0, bw1⟩ := b3
 obtain ⟨bh0, bh1⟩ := b4
 obtain ⟨m, hm⟩ : ∃ m : Nat, bw = (m : Int) := ⟨bw.toNat, by omega⟩
 obtain ⟨n, hn⟩ : ∃ n : Nat, bh = (n : Int) := ⟨bh.toNat, by omega⟩
 subst hm hn
 have hm1 : m ≤ 1000 := by omega
 have hn1 : n ≤ 1000 := by omega
 rw [Int.toNat_natCast] at HF
 have HA : Hid (0 < L.length → ∃ b off c, v = .slice (some ⟨b, off, none⟩) L.length c ∧ b < w.heap.size ∧ PairsAt w b off L) := hide (fun hp => by
  rcases hL with ⟨_, rfl⟩ | ⟨b, off, cap, rfl, hb, hc⟩
  ·simp at hp
  ·exact ⟨b, off, cap, rfl, hb, (Reads.pairs (.inr ⟨b, off, cap, rfl, hb, hc⟩)).2⟩)
 obtain ⟨a, c, rfl⟩ := hL.slice
 clear hL bw0 bh0 bw1 bh1
 go_enter Tryz.func68, Tryz.ntmps68
 go_wp2_with fail
 have BB : Hid (Blk (w.alloc (.cells #[.int .i64 bx, .int .i64 byy, .int .i64 (m : Int), .int .i64 (n : Int)] 117)) w.heap.size 117 #[.int .i64 bx, .int .i64 byy, .int .i64 (m : Int), .int .i64 (n : Int)]) := hide (Blk.new_ rfl)
 have X1 : Hid (Ext w (w.alloc (.cells #[.int .i64 bx, .int .i64 byy, .int .i64 (m : Int), .int .i64 (n : Int)] 117))) := hide (by (with_reducible (repeat' (first | exact z_r _ | assumption | refine z_d ?_ | refine z_n ?_ _ | refine z_a ?_ _ | refine z_s ?_ ?_ _ | refine z_t ?_ (by assumption)))); all_goals (simp <;> omega))
 obtain ⟨w1, hw1⟩ : ∃ w1, w.alloc (.cells #[.int .i64 bx, .int .i64 byy, .int .i64 (m : Int), .int .i64 (n : Int)] 117) = w1 := ⟨_, rfl⟩
 have hz1 : w.heap.size + 1 = w1.heap.size := by rw [← hw1]; simp
 obtain ⟨h, hh⟩ : ∃ h, w.heap.size = h := ⟨_, rfl⟩
 rw [hw1] at BB X1 ⊢
 rw [hh] at BB hz1 ⊢
 rw [hz1]
 have HZ1 := hide hz1
 clear hw1 hz1 hh
 have OB : Hid (Own cellE (w1.alloc (.cells #[] 69)) w1.heap.size 69 (.slice (some ⟨w1.heap.size, 0, none⟩) 0 0) []) := hide (Own.lit0 cellE w1 _ _ _ rfl (Nat.le_refl _))
 have XB : Hid (Ext w1 (w1.alloc (.cells #[] 69))) := hide ((Ext.refl _).alloc _)
 go_loopw [5, 6] (fun o y wr => ∃ j : Nat, y = .int .i64 (byy + (j : Int)) ∧ j ≤ n ∧ Ext w1 wr ∧ Own cellE wr w1.heap.size 69 o (foundR bx byy (m : Int) L j)) (fun _ y _ => n - (intOf y - byy).toNat)
 case atStart => exact ⟨0, by simp, Nat.zero_le _, XB.out, OB.out⟩
 case round =>
  obtain ⟨j, rfl, hj, hx, ho⟩ := hrel
  have HX := hide hx
  have HO := hide ho
  have BBr := hide (BB.out.ext hx)
  have HLj := hide (foundR_len bx byy (m : Int) L j)
  have p0 := BBr.out.at 0 rfl; have p1 := BBr.out.at 1 rfl; have p2 := BBr.out.at 2 rfl; have p3 := BBr.out.at 3 rfl; have pz := BBr.out.lt
  clear hx ho XB OB
  by_cases hlt : j < n
  ·have hlt' : byy + (j : Int) < byy + (n : Int) := by omega
   have HRS := hide (foundR_succ bx byy (m : Int) L j)
   rw [Int.toNat_natCast] at HRS
   go_wp2_with fail
   go_loopw [5, 7] (fun o x wy => ∃ i : Nat, x = .int .i64 (bx + (i : Int)) ∧ i ≤ m ∧ Ext w1 wy ∧ Own cellE wy w1.heap.size 69 o (foundR bx byy (m : Int) L j ++ foundC bx (byy + (j : Int)) L i)) (fun _ x _ => m - (intOf x - bx).toNat)
   case atStart => exact ⟨0, by simp, Nat.zero_le _, HX.out, by simpa [foundC] using HO.out⟩
   case round =>
    obtain ⟨i, rfl, hi, hx, ho⟩ := hrel
    have HXi := hide hx
    have HOi := hide ho
    have BBi := hide (BB.out.ext hx)
    have hzi : w1.heap.size ≤ wr.heap.size := hx.size
    have HLi := hide (foundC_len bx (byy + (j : Int)) L i)
    have q0 := BBi.out.at 0 rfl; have q1 := BBi.out.at 1 rfl; have q2 := BBi.out.at 2 rfl; have q3 := BBi.out.at 3 rfl; have qz := BBi.out.lt
    clear hx ho HO HX BBr p0 p1 p2 p3 pz
    by_cases hlti : i < m
    ·have hlti' : bx + (i : Int) < bx + (m : Int) := by omega
     have HCS := hide (foundC_succ bx (byy + (j : Int)) L i)
     go_upto_region 9 with (fail)
     clear q0 q1 q2 q3 qz
     have BC : Hid (Blk (wr.alloc (.cells #[.int .i64 (bx + (i : Int)), .int .i64 (byy + (j : Int))] 69)) wr.heap.size 69 #[.int .i64 (bx + (i : Int)), .int .i64 (byy + (j : Int))]) := hide (Blk.new_ rfl)
     have XC := hide (show Ext w1 (wr.alloc (.cells #[.int .i64 (bx + (i : Int)), .int .i64 (byy + (j : Int))] 69)) from HXi.out.trans ((Ext.refl _).alloc _))
     have OC := hide (HOi.out.ext (show Ext wr (wr.alloc (.cells #[.int .i64 (bx + (i : Int)), .int .i64 (byy + (j : Int))] 69)) from (Ext.refl _).alloc _))
     obtain ⟨wc, hwc⟩ : ∃ wc, wr.alloc (.cells #[.int .i64 (bx + (i : Int)), .int .i64 (byy + (j : Int))] 69) = wc := ⟨_, rfl⟩
     obtain ⟨g, hg⟩ : ∃ g, wr.heap.size = g := ⟨_, rfl⟩
     rw [hwc] at BC XC OC ⊢
     rw [hg] at BC ⊢
     clear hwc hg hzi BBi HXi HOi
     go_wp2_with fail
     go_loopw [9, 10] (fun s qv wz => ∃ q : Nat, qv = .int .i64 (q : Int) ∧ q ≤ L.length ∧ s = .bool (gIn (L.take q) (bx + (i : Int), byy + (j : Int))) ∧ Ext wc wz) (fun _ qv _ => L.length - (intOf qv).toNat)
     case atStart => exact ⟨0, rfl, Nat.zero_le _, by simp [gIn], Ext.refl _⟩
     case round =>
      obtain ⟨q, rfl, hq, rfl, hx⟩ := hrel
      have HXq := hide hx
      have BCr := hide (BC.out.ext hx)
      have r0 := BCr.out.at 0 rfl; have r1 := BCr.out.at 1 rfl; have rz := BCr.out.lt
      clear hx
      by_cases hltq : q < L.length
      ·obtain ⟨b, off, c', hv, hb, hP⟩ := HA.out (by omega)
       simp only [Value.slice.injEq] at hv
       obtain ⟨rfl, _, rfl⟩ := hv
       have hgq : L[q]? = some L[q] := List.getElem?_eq_getElem hltq
       obtain ⟨d0, d1, d2, d3⟩ := hP q hltq
       have XW := hide ((X1.out.trans XC.out).trans HXq.out)
       have e0 := (XW.out.cell (p := ⟨b, off + q * 4, none⟩) hb).trans d0
       have e1 := (XW.out.cell (p := ⟨b, off + q * 4 + 1, none⟩) hb).trans d1
       have e2 := (XW.out.cell (p := ⟨b, off + q * 4 + 2, none⟩) hb).trans d2
       have e3 := (XW.out.cell (p := ⟨b, off + q * 4 + 3, none⟩) hb).trans d3
       obtain ⟨u, hu⟩ : ∃ u, L[q] = u := ⟨_, rfl⟩
       rw [hu] at hgq e0 e1 e2 e3
       obtain ⟨⟨ua, ub⟩, ⟨uc, ud⟩⟩ := u
       have HTK := hide (gIn_takeR hgq (bx + (i : Int), byy + (j : Int)))
       simp only at e0 e1 e2 e3
       have hbz : b < wr.heap.size := Nat.lt_of_lt_of_le hb XW.out.size
       have hqi : (q : Int) < (L.length : Int) := by omega
       have hA1 := fun (w : World) => eq_cell (ua, ub) (bx + (i : Int), byy + (j : Int)) w
       have hB1 := fun (w : World) => eq_cell (uc, ud) (bx + (i : Int), byy + (j : Int)) w
       simp only at hA1 hB1
       clear d0 d1 d2 d3 hP hgq hu
       cases hs : gIn (L.take q) (bx + (i : Int), byy + (j : Int))
       ·rw [hs] at HTK
        cases ha : cellB (ua, ub) (bx + (i : Int), byy + (j : Int))
        ·rw [ha] at hA1 HTK
         generalize cellB (uc, ud) (bx + (i : Int), byy + (j : Int)) = cb at *
         go_wp2_with fail
         refine seqH_start (S := (fun W => (∀ b o, b < wr.heap.size → W.cell? ⟨b, o, none⟩ = wr.cell? ⟨b, o, none⟩) ∧ Ext wr W)) [(0, true), (1, true), (2, true), (3, true), (4, true), (5, true), (6, true), (7, true), (8, true), (9, true), (10, true), (11, true), (12, true), (13, true), (14, true), (15, true), (16, true), (17, true), (18, true), (19, true)] (by kernel_rfl) (by kernel_rfl) (by kernel_rfl) (by decide) (fun _ _ d _ _ h => by cases d <;> exact h) (by first | with_reducible exact pr_start _ | exact pr_of (by (with_reducible (repeat' (first | exact z_r _ | assumption | refine z_d ?_ | refine z_n ?_ _ | refine z_a ?_ _ | refine z_s ?_ ?_ _ | refine z_t ?_ (by assumption)))); all_goals (simp <;> omega))) (fun hHeld => ?_)
         iterate 20 (apply SeqH.free; (· (simp only [z_0, z_1, z_2]; rfl)); (· first | exact Or.inr ⟨by rfl, rfl⟩ | (refine Or.inl ⟨by rfl, ?_⟩; intro w hSw; (try dsimp only at hSw); go_simp; try with_reducible rfl)); try simp only [Act.put, z_3, z_4, z_5])
         refine SeqH.done ?_
         clear hHeld
         go_wp2
         go_roundw
         case rel => exact ⟨q + 1, by go_num, by omega, by rw [HTK.out]; simp, HXq.out.drew⟩
         case measure => simp [intOf]; omega
        ·rw [ha] at hA1 HTK
         go_wp2_with fail
         refine seqH_start (S := (fun W => (∀ b o, b < wr.heap.size → W.cell? ⟨b, o, none⟩ = wr.cell? ⟨b, o, none⟩) ∧ Ext wr W)) [(0, true), (1, true), (2, true), (3, true), (4, true), (5, true), (6, true), (7, true), (8, true), (9, true), (10, true), (11, true), (12, true), (13, true), (14, true), (15, true), (16, true), (17, true), (18, true), (19, true)] (by kernel_rfl) (by kernel_rfl) (by kernel_rfl) (by decide) (fun _ _ d _ _ h => by cases d <;> exact h) (by first | with_reducible exact pr_start _ | exact pr_of (by (with_reducible (repeat' (first | exact z_r _ | assumption | refine z_d ?_ | refine z_n ?_ _ | refine z_a ?_ _ | refine z_s ?_ ?_ _ | refine z_t ?_ (by assumption)))); all_goals (simp <;> omega))) (fun hHeld => ?_)
         iterate 20 (apply SeqH.free; (· (simp only [z_0, z_1, z_2]; rfl)); (· first | exact Or.inr ⟨by rfl, rfl⟩ | (refine Or.inl ⟨by rfl, ?_⟩; intro w hSw; (try dsimp only at hSw); go_simp; try with_reducible rfl)); try simp only [Act.put, z_3, z_4, z_5])
         refine SeqH.done ?_
         clear hHeld
         go_wp2
         go_roundw
         case rel => exact ⟨q + 1, by go_num, by omega, by rw [HTK.out]; simp, HXq.out.drew⟩
         case measure => simp [intOf]; omega
       ·rw [hs] at HTK
        go_wp2_with fail
        refine seqH_start (S := (fun W => (∀ b o, b < wr.heap.size → W.cell? ⟨b, o, none⟩ = wr.cell? ⟨b, o, none⟩) ∧ Ext wr W)) [(0, true), (1, true), (2, true), (3, true), (4, true), (5, true), (6, true), (7, true), (8, true), (9, true), (10, true), (11, true), (12, true), (13, true), (14, true), (15, true), (16, true), (17, true), (18, true), (19, true)] (by kernel_rfl) (by kernel_rfl) (by kernel_rfl) (by decide) (fun _ _ d _ _ h => by cases d <;> exact h) (by first | with_reducible exact pr_start _ | exact pr_of (by (with_reducible (repeat' (first | exact z_r _ | assumption | refine z_d ?_ | refine z_n ?_ _ | refine z_a ?_ _ | refine z_s ?_ ?_ _ | refine z_t ?_ (by assumption)))); all_goals (simp <;> omega))) (fun hHeld => ?_)
        iterate 20 (apply SeqH.free; (· (simp only [z_0, z_1, z_2]; rfl)); (· first | exact Or.inr ⟨by rfl, rfl⟩ | (refine Or.inl ⟨by rfl, ?_⟩; intro w hSw; (try dsimp only at hSw); go_simp; try with_reducible rfl)); try simp only [Act.put, z_3, z_4, z_5])
        refine SeqH.done ?_
        clear hHeld
        go_wp2
        go_roundw
        case rel => exact ⟨q + 1, by go_num, by omega, by rw [HTK.out]; simp, HXq.out.drew⟩
        case measure => simp [intOf]; omega
      ·obtain rfl : q = L.length := by omega
       rw [List.take_of_length_le (Nat.le_refl _)]
       have XR := hide (XC.out.trans HXq.out)
       have OR := hide (OC.out.ext HXq.out)
       have hzr : w1.heap.size ≤ wr.heap.size := XR.out.size
       obtain ⟨ar, cr, har⟩ := OR.out.slice
       subst har
       have hll : (foundR bx byy (m : Int) L j ++ foundC bx (byy + (j : Int)) L i).length ≤ 2000000 := by
        have h1 := HLj.out
        have h2 := HLi.out
        rw [List.length_append]
        rw [Int.toNat_natCast] at h1
        have h3 : j * m ≤ 1000 * 1000 := Nat.mul_le_mul (by omega) hm1
        omega
       cases hs : gIn L (bx + (i : Int), byy + (j : Int))
       ·have HE := hide (show foundC bx (byy + (j : Int)) L (i + 1) = foundC bx (byy + (j : Int)) L i by rw [HCS.out, hs]; simp)
        go_wp2
        go_roundw
        case rel => exact ⟨i + 1, by rw [show bx + ((i + 1 : Nat) : Int) = bx + (i : Int) + 1 by omega], by omega, XR.out, by rw [HE.out]; exact OR.out⟩
        case measure => simp [intOf]; omega
       ·have HE := hide (show foundR bx byy (m : Int) L j ++ foundC bx (byy + (j : Int)) L (i + 1) = (foundR bx byy (m : Int) L j ++ foundC bx (byy + (j : Int)) L i) ++ [(bx + (i : Int), byy + (j : Int))] by rw [HCS.out, hs, List.append_assoc]; simp)
        generalize foundR bx byy (m : Int) L j ++ foundC bx (byy + (j : Int)) L i = R at *
        go_wp2_with (at_builtin; refine wpList_app_at cellE T_cellsG rfl _ _ rfl w1.heap.size _ _ R rfl OR.out (bx + (i : Int), byy + (j : Int)) _ _ rfl _ rfl rfl (by omega) (by omega) (by omega) ?_; intro g9 c9 w9 o9 t9 l9; have O9 := hide o9; have T9 := hide t9; clear o9 t9 l9)
        go_roundw
        case rel => exact ⟨i + 1, by rw [show bx + ((i + 1 : Nat) : Int) = bx + (i : Int) + 1 by omega], by omega, XR.out.of_below (T9.out.to_below (by omega) (fun z hz => (own_lt OR.out hz).1)) (Nat.le_refl _), by rw [HE.out]; exact O9.out⟩
        case measure => simp [intOf]; omega
    ·obtain rfl : i = m := by omega
     go_wp2
     go_roundw
     case rel => exact ⟨j + 1, by rw [show byy + ((j + 1 : Nat) : Int) = byy + (j : Int) + 1 by omega], by omega, HXi.out, by rw [HRS.out]; exact HOi.out⟩
     case measure => simp [intOf]; omega
  ·obtain rfl : j = n := by omega
   obtain ⟨ao, co, hao⟩ := HO.out.slice
   subst hao
   go_wp2
   go_ret
   exact ⟨_, rfl, X1.out.trans HX.out, by rw [HF.out]; exact HO.out.lower X1.out.size⟩

theorem readsC_at {w : World} {a : Option Addr} {n c : Nat} {l : List Cell} {k : Nat} {q : Cell} (h : Reads cellE w (.slice a n c) l) (hk : l[k]? = some q) : ∃ b off, a = some ⟨b, off, none⟩ ∧ b < w.heap.size ∧ w.cell? ⟨b, off + k * 2, none⟩ = some (.int .i64 q.1) ∧ w.cell? ⟨b, off + k * 2 + 1, none⟩ = some (.int .i64 q.2) := by
 rcases h with ⟨_, rfl⟩ | ⟨b, off, cap, hv, hb, hc⟩
 ·simp at hk
 ·cases hv
  refine ⟨b, off, rfl, hb, ?_, ?_⟩
  ·have := hc k q hk 0 _ rfl
   simpa [cellE] using this
  ·have := hc k q hk 1 _ rfl
   simpa [cellE, Nat.add_assoc] using this
end Go.Proofs.YtkioohhjjdlhiaaGreat
