/- Walk of Cost, of layer 9, at a path that is one. -/
import Derived.Test.YtifbmapianddcaaRouteC
set_option linter.all false
set_option linter.unusedVariables false
set_option linter.unusedSimpArgs false
namespace Go.Proofs.Ytifbmapianddcaa
open Go.RowKit

/-- What the cells of a path cost, but for the first one. -/
def sumC (W : Int) (l : List Int) (p : List Cell) : Nat → Int
  | 0 => 0
  | k + 1 => if k = 0 then 0 else sumC W l p k + l.getD (idxN W (p.getD k (0, 0))) 0
theorem sumC_bd {W : Int} {l : List Int} {p : List Cell} (hu : U16s l) : ∀ k, 0 ≤ sumC W l p k ∧ sumC W l p k ≤ 65535 * (k : Int)
  | 0 => by simp [sumC]
  | k + 1 => by
    have h := sumC_bd (W := W) (p := p) hu k
    have hb : 0 ≤ l.getD (idxN W (p.getD k (0, 0))) 0 ∧ l.getD (idxN W (p.getD k (0, 0))) 0 ≤ 65535 := by
      by_cases hi : idxN W (p.getD k (0, 0)) < l.length
      · have := hu (l.getD (idxN W (p.getD k (0, 0))) 0) (by rw [List.getD_eq_getElem?_getD, List.getElem?_eq_getElem hi]; exact List.getElem_mem _)
        omega
      · rw [List.getD_eq_getElem?_getD, List.getElem?_eq_none (by omega)]
        simp
    unfold sumC
    split <;> omega

set_option maxRecDepth 100000 in
set_option maxHeartbeats 2000000 in
theorem rtCost_ok {w : World} {W H : Int} {a : Option Addr} {l : List Int} (c : Nat) {pa : Option Addr} {p : List Cell} (pc : Nat) (hck : checkE W H l.length = 0) (hr : Row16 w a l) (hu : U16s l) (hc : RowC w pa p) (hpc : p.length ≤ pc) (G : GoodPath W H l p) :
    Calls Try.prog 21 #[.agg #[.int .i64 W, .int .i64 H, .slice a l.length c], .slice pa p.length pc] w fun e w' => e = .returned (.tuple #[.int .u64 (sumC W l p p.length), .int .i64 0]) ∧ Ext w w' := by
  have HCK := hide (fun (w' : World) (hx : Ext w w') => rtCheck_ok (w := w') c pc hck (hr.ext hx) (hc.ext hx) G)
  have wh := mayB_true.1 (checkE_ok.1 hck).1
  have hlen := (checkE_ok.1 hck).2
  obtain ⟨b, off, rfl, hb, hcc⟩ := hc G.pos
  have HCC := hide hcc
  have HG := hide G
  have HR := hide hr
  have HBD := hide (fun k => sumC_bd (W := W) (p := p) hu k)
  have hp0 := G.pos
  have hpf := G.few
  obtain ⟨S, hS⟩ : ∃ S, sumC W l p = S := ⟨_, rfl⟩
  have HSS : Hid (∀ k, S (k + 1) = if k = 0 then 0 else S k + l.getD (idxN W (p.getD k (0, 0))) 0) := hide (fun k => by rw [← hS]; rfl)
  rw [hS] at HBD ⊢
  have HUB := hide (fun i (hi : i < l.length) => hu l[i] (List.getElem_mem hi))
  obtain ⟨m, hm⟩ : ∃ z, p.length = z := ⟨_, rfl⟩
  obtain ⟨n, hn⟩ : ∃ z, l.length = z := ⟨_, rfl⟩
  have HMM := hide hm
  have HNN := hide hn
  rw [hn] at HCK hlen ⊢
  rw [hm] at HCK hp0 hpf hpc ⊢
  clear hck hr hu hc G hcc hm hn hS
  go_enter Try.func21, Try.ntmps21
  go_wp2_with fail
  refine (HCK.out _ (by (with_reducible (repeat' (first | exact Ext.refl _ | assumption | refine Ext.drew ?_ | refine Ext.drewN ?_ _ | refine Ext.alloc ?_ _ | refine Ext.setCell ?_ ?_ _ | refine Ext.trans ?_ (by assumption)))); all_goals (first | (simp; done) | (simp; omega)))).mono ?_
  rintro e w1 ⟨rfl, hb1⟩
  have B0 : Hid (Blk w1 (w.heap.size) 26 #[.int .i64 W, .int .i64 H, .slice a n c]) := hide (by refine Blk.ext ?_ hb1; (repeat' (first | exact Blk.new_ (by simp) | refine Blk.drew ?_ | refine Blk.over ?_)))
  have X1 := hide (show Ext w w1 from (by (with_reducible (repeat' (first | exact Ext.refl _ | assumption | refine Ext.drew ?_ | refine Ext.drewN ?_ _ | refine Ext.alloc ?_ _ | refine Ext.setCell ?_ ?_ _ | refine Ext.trans ?_ (by assumption)))); all_goals (first | (simp; done) | (simp; omega))))
  have jm : (1 : Int) ≤ (m : Int) := by omega
  have jm' : 1 ≤ m := hp0
  have jpc : (m : Int) ≤ (pc : Int) := by omega
  clear hb1
  by_cases hp1 : pc = 1
  · obtain rfl := hp1
    obtain rfl : m = 1 := by omega
    have HS1 := hide (show S 1 = 0 by rw [HSS.out 0]; rfl)
    clear HBD HUB HR HCC
    go_wp2_with fail
    go_loopw [7, 19] (fun nv iv wr => iv = .int .i64 0 ∧ nv = .int .u64 0 ∧ Ext w1 wr) (fun _ iv _ => 0)
    case atStart => exact ⟨rfl, rfl, Ext.refl _⟩
    case round =>
      obtain ⟨rfl, rfl, hx⟩ := hrel
      go_wp2_with fail
      go_ret2
      exact ⟨by rw [HS1.out]; rfl, X1.out.trans hx⟩
  · have jp1 : (1 : Int) < (pc : Int) := by omega
    have jp2 : 1 < pc := by omega
    have jp3 : ¬ pc - 1 = 0 := by omega
    go_wp2_with fail
    go_loopw [7, 19] (fun nv iv wr => ∃ k : Nat, k + 1 ≤ m ∧ iv = .int .i64 k ∧ nv = .int .u64 (S (k + 1)) ∧ Ext w1 wr) (fun _ iv _ => m - (intOf iv).toNat)
    case atStart => exact ⟨0, hp0, rfl, by rw [HSS.out 0]; rfl, Ext.refl _⟩
    case round =>
      obtain ⟨k, hk, rfl, rfl, hx⟩ := hrel
      have XR := hide hx
      have C0 := hide (B0.out.ext hx)
      have f0 := C0.out.at 0 rfl; have f1 := C0.out.at 1 rfl; have f2 := C0.out.at 2 rfl; have fz := C0.out.lt
      by_cases hlt : k + 1 < m
      · have hkl : k + 1 < p.length := by rw [HMM.out]; exact hlt
        have hon := HG.out.on (k + 1) hkl
        have hcl := HCC.out (k + 1) hkl
        have hq' : p.getD (k + 1) (0, 0) = p[k + 1] := by simp [List.getD_eq_getElem?_getD, hkl]
        have hs := HSS.out (k + 1)
        rw [if_neg (by omega), hq'] at hs
        rw [hq'] at hon
        have hbd := HBD.out (k + 1)
        obtain ⟨⟨qx, qy⟩, hq⟩ : ∃ z, p[k + 1] = z := ⟨_, rfl⟩
        rw [hq] at hon hcl hs
        have bq := inB_true.1 hon.1
        simp only at hon hcl bq
        have hxw := X1.out.trans hx
        have y0 : wr.cell? ⟨b, off + 2 + k * 2, none⟩ = some (.int .i64 qx) := by rw [show off + 2 + k * 2 = off + (k + 1) * 2 by omega]; exact (hxw.cell (p := ⟨b, _, none⟩) hb).trans hcl.1
        have y1 : wr.cell? ⟨b, off + 2 + k * 2 + 1, none⟩ = some (.int .i64 qy) := by rw [show off + 2 + k * 2 = off + (k + 1) * 2 by omega]; exact (hxw.cell (p := ⟨b, _, none⟩) hb).trans hcl.2
        have yz : b < wr.heap.size := Nat.lt_of_lt_of_le hb hxw.size
        obtain ⟨J, hJ⟩ : ∃ z, idxN W (qx, qy) = z := ⟨_, rfl⟩
        have hi2 := idx_int (W := W) (x := qx) (y := qy) (by omega) (by omega) (by omega)
        rw [hJ] at hi2 hon hs
        have m1 := mul_bd (a := qy) (b := W) (A := 256) (B := 256) (by omega) (by omega) (by omega) (by omega)
        have kk1 : IntKind.i64.wrap (qy * W) = qy * W := IntWalk.i64_in _ (by omega)
        have kk2 : IntKind.i64.wrap (qy * W + qx) = (J : Int) := by rw [hi2]; exact IntWalk.i64_in _ (by omega)
        have hJn : J < n := by
          have m2 := Int.mul_le_mul_of_nonneg_right (show qy ≤ H - 1 by omega) (show 0 ≤ W by omega)
          rw [Int.sub_mul, Int.one_mul, Int.mul_comm H W] at m2
          omega
        obtain ⟨ab, ao, rfl, hab, hac⟩ := HR.out (by rw [HNN.out]; omega)
        have hJl : J < l.length := by rw [HNN.out]; exact hJn
        have hc2 := hac J hJl
        have hub := HUB.out J hJl
        have hcst : l.getD J 0 = l[J] := by simp [List.getD_eq_getElem?_getD, hJl]
        rw [hcst] at hs
        obtain ⟨cst, hcs⟩ : ∃ z, l[J] = z := ⟨_, rfl⟩
        rw [hcs] at hc2 hs hub
        have y2 := (hxw.cell (p := ⟨ab, ao + J, none⟩) hab).trans hc2
        have yz2 : ab < wr.heap.size := Nat.lt_of_lt_of_le hab hxw.size
        obtain ⟨sv, hsv⟩ : ∃ z, S (k + 1) = z := ⟨_, rfl⟩
        rw [hsv] at hs hbd ⊢
        have HNXT := hide hs
        have w1' : IntKind.u64.wrap cst = cst := by rw [IntKind.wrap_u64]; omega
        have w2' : IntKind.u64.wrap (sv + cst) = sv + cst := by rw [IntKind.wrap_u64]; omega
        have jJ : (J : Int) < (n : Int) := by omega
        have jk : (k : Int) < ((m - 1 : Nat) : Int) := by omega
        have jk' : k < m - 1 := by omega
        clear hkl hon hcl hq' hs hbd hq bq hxw hJ hi2 m1 hac hJl hc2 hub hcst hcs hsv hx
        go_wp2_with fail
        go_roundw
        case rel => exact ⟨k + 1, by omega, by go_num, by rw [HNXT.out], XR.out.trans (by (with_reducible (repeat' (first | exact Ext.refl _ | assumption | refine Ext.drew ?_ | refine Ext.drewN ?_ _ | refine Ext.alloc ?_ _ | refine Ext.setCell ?_ ?_ _ | refine Ext.trans ?_ (by assumption)))); all_goals (first | (simp; done) | (simp; omega)))⟩
        case measure => simp [intOf]; omega
      · obtain rfl : m = k + 1 := by omega
        clear f0 f1 f2 fz
        go_wp2_with fail
        go_ret2
        exact ⟨rfl, X1.out.trans XR.out⟩
end Go.Proofs.Ytifbmapianddcaa
