/- Part of a proof: LayI Geom. -/
import Derived.Shelf.SlLaysM
import Derived.Test.YtaellcgglldjaaaGreatHierFindsQ01
set_option linter.all false
set_option linter.unusedVariables false
set_option linter.unusedSimpArgs false
namespace Go.Proofs.YtaellcgglldjaaaGreat
open Go.Shelf Go.RowKit
def aI1:Go.Shelf.Ren:=⟨fun|5=>73|7=>125|8=>126|10=>159|11=>160|12=>161|13=>162|14=>163|15=>164|16=>165|17=>166|18=>167|19=>168|20=>169|30=>182|31=>183|32=>184|33=>185|34=>186|35=>172|40=>198|n=>n,fun|0=>0|3=>3|4=>4|5=>5|9=>9|22=>94|23=>94|25=>3|32=>171|35=>257|36=>258|41=>243|44=>238|46=>38|53=>276|57=>280|63=>292|64=>293|n=>n,fun n=>n⟩
theorem aKp:SlLaysM.n5 Tryz.prog aI1:={
 mixed:=by kernel_rfl,
 f5:=⟨Tryz.f73.name,by decide,Tryz.func73.trans (congrArg some (by kernel_rfl))⟩,
 f7:=⟨Tryz.f125.name,by decide,Tryz.func125.trans (congrArg some (by kernel_rfl))⟩,
 f8:=Tryz.func126.trans (congrArg some (by kernel_rfl)),
 f10:=⟨Tryz.f159.name,by decide,Tryz.func159.trans (congrArg some (by kernel_rfl))⟩,
 f11:=⟨Tryz.f160.name,by decide,Tryz.func160.trans (congrArg some (by kernel_rfl))⟩,
 f12:=⟨Tryz.f161.name,by decide,Tryz.func161.trans (congrArg some (by kernel_rfl))⟩,
 f13:=⟨Tryz.f162.name,by decide,Tryz.func162.trans (congrArg some (by kernel_rfl))⟩,
 f14:=⟨Tryz.f163.name,by decide,Tryz.func163.trans (congrArg some (by kernel_rfl))⟩,
 f15:=⟨Tryz.f164.name,by decide,Tryz.func164.trans (congrArg some (by kernel_rfl))⟩,
 f16:=⟨Tryz.f165.name,by decide,Tryz.func165.trans (congrArg some (by kernel_rfl))⟩,
 f17:=⟨Tryz.f166.name,by decide,Tryz.func166.trans (congrArg some (by kernel_rfl))⟩,
 f18:=⟨Tryz.f167.name,by decide,Tryz.func167.trans (congrArg some (by kernel_rfl))⟩,
 f19:=Tryz.func168.trans (congrArg some (by kernel_rfl)),
 f20:=Tryz.func169.trans (congrArg some (by kernel_rfl)),
 f30:=⟨Tryz.f182.name,by decide,Tryz.func182.trans (congrArg some (by kernel_rfl))⟩,
 f31:=Tryz.func183.trans (congrArg some (by kernel_rfl)),
 f32:=Tryz.func184.trans (congrArg some (by kernel_rfl)),
 f33:=⟨Tryz.f185.name,by decide,Tryz.func185.trans (congrArg some (by kernel_rfl))⟩,
 f34:=⟨Tryz.f186.name,by decide,Tryz.func186.trans (congrArg some (by kernel_rfl))⟩,
 f35:=⟨Tryz.f172.name,by decide,Tryz.func172.trans (congrArg some (by kernel_rfl))⟩,
 f40:=⟨Tryz.f198.name,by decide,Tryz.func198.trans (congrArg some (by kernel_rfl))⟩,
 t0:=Tryz.underlying0,
 a0:=Tryz.isAgg0,
 z0:=Tryz.sizeOf0,
 v0:=Tryz.zeroValue0,
 t3:=Tryz.underlying3,
 a3:=Tryz.isAgg3,
 z3:=Tryz.sizeOf3,
 v3:=Tryz.zeroValue3,
 t4:=Tryz.underlying4,
 a4:=Tryz.isAgg4,
 z4:=Tryz.sizeOf4,
 v4:=Tryz.zeroValue4,
 t5:=Tryz.underlying5,
 a5:=Tryz.isAgg5,
 z5:=Tryz.sizeOf5,
 v5:=Tryz.zeroValue5,
 t9:=Tryz.underlying9,
 a9:=Tryz.isAgg9,
 z9:=Tryz.sizeOf9,
 v9:=Tryz.zeroValue9,
 t22:=Tryz.underlying94,
 a22:=Tryz.isAgg94,
 z22:=Tryz.sizeOf94,
 v22:=Tryz.zeroValue94,
 t23:=Tryz.underlying94,
 a23:=Tryz.isAgg94,
 z23:=Tryz.sizeOf94,
 v23:=Tryz.zeroValue94,
 t25:=Tryz.underlying3,
 a25:=Tryz.isAgg3,
 z25:=Tryz.sizeOf3,
 v25:=Tryz.zeroValue3,
 t32:=Tryz.underlying171,
 a32:=Tryz.isAgg171,
 z32:=Tryz.sizeOf171,
 v32:=Tryz.zeroValue171,
 t35:=Tryz.underlying257,
 a35:=Tryz.isAgg257,
 z35:=Tryz.sizeOf257,
 v35:=Tryz.zeroValue257,
 t36:=Tryz.underlying258,
 a36:=Tryz.isAgg258,
 z36:=Tryz.sizeOf258,
 v36:=Tryz.zeroValue258,
 t41:=Tryz.underlying243,
 a41:=Tryz.isAgg243,
 z41:=Tryz.sizeOf243,
 v41:=Tryz.zeroValue243,
 t44:=Tryz.underlying238,
 a44:=Tryz.isAgg238,
 z44:=Tryz.sizeOf238,
 v44:=Tryz.zeroValue238,
 t46:=Tryz.underlying38,
 a46:=Tryz.isAgg38,
 z46:=Tryz.sizeOf38,
 v46:=Tryz.zeroValue38,
 t53:=Tryz.underlying276,
 a53:=Tryz.isAgg276,
 z53:=Tryz.sizeOf276,
 v53:=Tryz.zeroValue276,
 t57:=Tryz.underlying280,
 a57:=Tryz.isAgg280,
 z57:=Tryz.sizeOf280,
 v57:=Tryz.zeroValue280,
 t63:=Tryz.underlying292,
 a63:=Tryz.isAgg292,
 z63:=Tryz.sizeOf292,
 v63:=Tryz.zeroValue292,
 t64:=Tryz.underlying293,
 a64:=Tryz.isAgg293,
 z64:=Tryz.sizeOf293,
 v64:=Tryz.zeroValue293}
end Go.Proofs.YtaellcgglldjaaaGreat

namespace Go.Proofs.YtaellcgglldjaaaGreat
open Go.RowKit
def fO (n lo hi:Int):Bool:=decide (lo≤n)&&decide (n≤hi)
theorem kU {n lo hi:Int}:fO n lo hi=true↔lo≤n∧n≤hi:=by simp[fO]
theorem iD (n lo hi:Int) (w:World):
  Calls Tryz.prog 102 #[.int .i64 n, .int .i64 lo, .int .i64 hi] w fun e w'=>e= .returned (.bool (fO n lo hi))∧w=w':=by
 unfold fO
 by_cases h1:lo≤n
 ·by_cases h2:n≤hi
  ·go_enter Tryz.func102,Tryz.ntmps102
   go_wp2
   go_ret
   exact⟨by simp[h1,h2],rfl⟩
  go_enter Tryz.func102,Tryz.ntmps102
  go_wp2
  go_ret
  exact⟨by simp[h2],rfl⟩
 go_enter Tryz.func102,Tryz.ntmps102
 go_wp2
 go_ret
 exact⟨by simp;omega,rfl⟩
def bW (W H:Int):Bool:=fO W 1 256&&fO H 1 256
theorem mayB_true {W H:Int}:bW W H=true↔1≤W∧W≤256∧1≤H∧H≤256:=by simp[bW,fO,and_assoc]
theorem iX (W H:Int) (w:World):
  Calls Tryz.prog 76 #[.agg #[.int .i64 W, .int .i64 H]] w fun e w'=>e= .returned (.bool (bW W H))∧Ext w w':=by
 go_enter Tryz.func76,Tryz.ntmps76
 go_wp2_with (go_at_call 102;refine(iD _ _ _ _).mono ?_;rintro e w' ⟨rfl,rfl⟩)
 all_goals go_ret
 all_goals exact⟨by simp[bW, *],z_x⟩
def inB (W H x y:Int):Bool:=bW W H&&fO x 0 (W-1)&&fO y 0 (H-1)
theorem inB_true {W H x y:Int}:inB W H x y=true↔1≤W∧W≤256∧1≤H∧H≤256∧0≤x∧x<W∧0≤y∧y<H:=by
 simp only[inB,Bool.and_eq_true,mayB_true,kU];omega
theorem gK (W H x y:Int) (w:World):
  Calls Tryz.prog 55 #[.agg #[.int .i64 W, .int .i64 H], .agg #[.int .i64 x, .int .i64 y]] w fun e w'=>e= .returned (.bool (inB W H x y))∧Ext w w':=by
 by_cases hm:bW W H=true
 ·obtain⟨h1,h2,h3,h4⟩:=mayB_true.1 hm
  go_enter Tryz.func55,Tryz.ntmps55
  go_wp2_with (first
   |(go_at_call 76;refine(iX _ _ _).mono ?_;rintro e w1 ⟨rfl,hb1⟩;obtain⟨hc1,hf1⟩:=hb1.cells;have hz1:=hb1.size;(try simp only[zS]at hz1);have z1_0:w.heap.size<w1.heap.size:=(by omega);have z1_1:w.heap.size+1<w1.heap.size:=(by omega))
   |(go_at_call 102;refine(iD _ _ _ _).mono ?_;rintro e w' ⟨rfl,rfl⟩))
  all_goals go_ret
  all_goals exact⟨by simp[inB, *],z_x⟩
 have hm':bW W H=false:=by simpa using hm
 go_enter Tryz.func55,Tryz.ntmps55
 go_wp2_with (first
  |(go_at_call 76;refine(iX _ _ _).mono ?_;rintro e w1 ⟨rfl,hb1⟩;obtain⟨hc1,hf1⟩:=hb1.cells;have hz1:=hb1.size;(try simp only[zS]at hz1);have z1_0:w.heap.size<w1.heap.size:=(by omega);have z1_1:w.heap.size+1<w1.heap.size:=(by omega)))
 all_goals go_ret
 all_goals exact⟨by simp[inB, *],z_x⟩
def aK (W H s:Int):Bool:=bW W H&&decide (2≤s)&&decide (s≤16)
theorem rightB_true {W H s:Int}:aK W H s=true↔1≤W∧W≤256∧1≤H∧H≤256∧2≤s∧s≤16:=by
 simp only[aK,Bool.and_eq_true,mayB_true,decide_eq_true_eq];omega
theorem jA (W H s:Int) (w:World):
  Calls Tryz.prog 54 #[.agg #[.int .i64 W, .int .i64 H, .int .i64 s]] w fun e w'=>e= .returned (.bool (aK W H s))∧Ext w w':=by
 by_cases hm:bW W H=true
 ·by_cases hs:2≤s
  ·go_enter Tryz.func54,Tryz.ntmps54
   go_wp2_with (go_at_call 76;refine(iX _ _ _).mono ?_;rintro e w1 ⟨rfl,hb1⟩;obtain⟨hc1,hf1⟩:=hb1.cells;have hz1:=hb1.size;(try simp only[zS]at hz1);have z1_0:w.heap.size<w1.heap.size:=(by omega))
   all_goals go_ret
   all_goals exact⟨by simp[aK, *],z_x⟩
  go_enter Tryz.func54,Tryz.ntmps54
  go_wp2_with (go_at_call 76;refine(iX _ _ _).mono ?_;rintro e w1 ⟨rfl,hb1⟩;obtain⟨hc1,hf1⟩:=hb1.cells;have hz1:=hb1.size;(try simp only[zS]at hz1);have z1_0:w.heap.size<w1.heap.size:=(by omega))
  all_goals go_ret
  all_goals exact⟨by simp[aK];omega,z_x⟩
 have hm':bW W H=false:=by simpa using hm
 go_enter Tryz.func54,Tryz.ntmps54
 go_wp2_with (go_at_call 76;refine(iX _ _ _).mono ?_;rintro e w1 ⟨rfl,hb1⟩;obtain⟨hc1,hf1⟩:=hb1.cells;have hz1:=hb1.size;(try simp only[zS]at hz1);have z1_0:w.heap.size<w1.heap.size:=(by omega))
 all_goals go_ret
 all_goals exact⟨by simp[aK,hm'],z_x⟩
def acr (n s:Int):Int:=(n+s-1)/s
theorem lS (W H s n:Int) (w:World) (h1:2≤s) (h2:s≤16) (h3:0≤n) (h4:n≤1000):
  Calls Tryz.prog 56 #[.agg #[.int .i64 W, .int .i64 H, .int .i64 s], .int .i64 n] w fun e w'=>e= .returned (.int .i64 (acr n s))∧Ext w w':=by
 unfold acr
 go_enter Tryz.func56,Tryz.ntmps56
 go_wp2
 go_ret
 exact⟨rfl,z_x⟩
theorem bU (n s:Int) (h1:2≤s) (h2:s≤16) (h3:1≤n) (h4:n≤256):1≤acr n s∧acr n s≤256:=by
 unfold acr
 constructor
 ·exact Int.le_ediv_of_mul_le (by omega) (by omega)
 exact Int.ediv_le_of_le_mul (by omega) (by have:2*256≤s*256:=(by omega);omega)
def cnt (W H s:Int):Int:=acr W s*acr H s
theorem mI {W H s:Int} (hr:aK W H s=true):1≤cnt W H s∧cnt W H s≤65536:=by
 obtain⟨h1,h2,h3,h4,h5,h6⟩:=rightB_true.1 hr
 have b1:=bU W s h5 h6 h1 h2
 have b2:=bU H s h5 h6 h3 h4
 unfold cnt
 generalize acr W s=a at *
 generalize acr H s=b at *
 constructor
 ·have:1*1≤a*b:=Int.mul_le_mul b1.1 b2.1 (by omega) (by omega)
  omega
 have:a*b≤256*256:=Int.mul_le_mul b1.2 b2.2 (by omega) (by omega)
 omega
theorem fB (W H s:Int) (w:World) (hr:aK W H s=true):
  Calls Tryz.prog 37 #[.agg #[.int .i64 W, .int .i64 H, .int .i64 s]] w fun e w'=>e= .returned (.int .i64 (cnt W H s))∧Ext w w':=by
 obtain⟨h1,h2,h3,h4,h5,h6⟩:=rightB_true.1 hr
 have b0:=mI hr
 unfold cnt at b0⊢
 have b1:IntKind.i64.wrap (acr W s*acr H s)=acr W s*acr H s:=IntWalk.i64_in _ (by omega)
 go_enter Tryz.func37,Tryz.ntmps37
 go_wp2_with (go_at_call 54;refine(jA _ _ _ _).mono ?_;rintro e w1 ⟨rfl,hb1⟩;obtain⟨hc1,hf1⟩:=hb1.cells;have hz1:=hb1.size;(try simp only[zS]at hz1);have z1_0:w.heap.size<w1.heap.size:=(by omega))
 go_region_held3 (fun W=>(∀b o,b<w1.heap.size→W.cell? ⟨b,o,none⟩=w1.cell? ⟨b,o,none⟩)∧Ext w1 W) (first|with_reducible exact bG _|exact aI z_x)
  (first|(go_at_call 56;refine(lS _ _ _ _ _ (by omega) (by omega) (by omega) (by omega)).mono ?_;rintro e w2 ⟨rfl,hb2⟩))
 go_wp2
 go_ret
 exact⟨rfl,z_x⟩
def ofN (W s x y:Int):Int:=y/s*acr W s+x/s
theorem lC (W H s x y:Int) (w:World) (hr:aK W H s=true) (hi:inB W H x y=true):
  Calls Tryz.prog 21 #[.agg #[.int .i64 W, .int .i64 H, .int .i64 s], .agg #[.int .i64 x, .int .i64 y]] w fun e w'=>e= .returned (.tuple #[.int .i64 (ofN W s x y), .int .i64 0])∧Ext w w':=by
 obtain⟨h1,h2,h3,h4,h5,h6⟩:=rightB_true.1 hr
 obtain⟨_,_,_,_,i1,i2,i3,i4⟩:=inB_true.1 hi
 have b1:=bU W s h5 h6 h1 h2
 have b2:=tD (a:=y) (s:=s) (A:=256) i3 (by omega) (by omega)
 have b3:=tD (a:=x) (s:=s) (A:=256) i1 (by omega) (by omega)
 have b4:=cN (a:=y/s) (b:=acr W s) (A:=256) (B:=256) b2.1 b2.2 (by omega) b1.2
 unfold ofN
 have k1:IntKind.i64.wrap (y/s*acr W s)=y/s*acr W s:=IntWalk.i64_in _ (by omega)
 have k2:IntKind.i64.wrap (y/s*acr W s+x/s)=y/s*acr W s+x/s:=IntWalk.i64_in _ (by omega)
 have k3:IntKind.i64.wrap (y.tdiv s)=y/s:=oK i3 (by omega) (by omega)
 have k4:IntKind.i64.wrap (x.tdiv s)=x/s:=oK i1 (by omega) (by omega)
 have hs0: ¬s=0:=by omega
 go_enter Tryz.func21,Tryz.ntmps21
 go_wp2_with (first
  |(go_at_call 54;refine(jA _ _ _ _).mono ?_;rintro e w1 ⟨rfl,hb1⟩;obtain⟨hc1,hf1⟩:=hb1.cells;have hz1:=hb1.size;(try simp only[zS]at hz1);have z1_0:w.heap.size<w1.heap.size:=(by omega);have z1_1:w.heap.size+1<w1.heap.size:=(by omega))
  |(go_at_call 55;refine(gK _ _ _ _ _).mono ?_;rintro e w2 ⟨rfl,hb2⟩;obtain⟨hc2,hf2⟩:=hb2.cells;have hz2:=hb2.size;(try simp only[zS]at hz2);have z2_0:w.heap.size<w2.heap.size:=(by omega);have z2_1:w.heap.size+1<w2.heap.size:=(by omega)))
 go_region_held3 (fun W=>(∀b o,b<w2.heap.size→W.cell? ⟨b,o,none⟩=w2.cell? ⟨b,o,none⟩)∧Ext w2 W) (first|with_reducible exact bG _|exact aI z_x)
  (first|(go_at_call 56;refine(lS _ _ _ _ _ (by omega) (by omega) (by omega) (by omega)).mono ?_;rintro e w3 ⟨rfl,hb3⟩))
 all_goals go_wp2
 all_goals go_ret2
 all_goals exact⟨rfl,z_x⟩
theorem sJ (W H s x y:Int) (w:World) (hr:aK W H s=true) (hi:inB W H x y=false):
  Calls Tryz.prog 21 #[.agg #[.int .i64 W, .int .i64 H, .int .i64 s], .agg #[.int .i64 x, .int .i64 y]] w fun e w'=>e= .returned (.tuple #[.int .i64 0, .int .i64 10])∧Ext w w':=by
 go_enter Tryz.func21,Tryz.ntmps21
 go_wp2_with (first
  |(go_at_call 54;refine(jA _ _ _ _).mono ?_;rintro e w1 ⟨rfl,hb1⟩;obtain⟨hc1,hf1⟩:=hb1.cells;have hz1:=hb1.size;(try simp only[zS]at hz1);have z1_0:w.heap.size<w1.heap.size:=(by omega);have z1_1:w.heap.size+1<w1.heap.size:=(by omega))
  |(go_at_call 55;refine(gK _ _ _ _ _).mono ?_;rintro e w2 ⟨rfl,hb2⟩;obtain⟨hc2,hf2⟩:=hb2.cells;have hz2:=hb2.size;(try simp only[zS]at hz2);have z2_0:w.heap.size<w2.heap.size:=(by omega);have z2_1:w.heap.size+1<w2.heap.size:=(by omega)))
 go_ret2
 exact⟨rfl,z_x⟩
def aR (W s id:Int):Int:=id% acr W s*s
def aO (W s id:Int):Int:=id/acr W s*s
theorem aCj (W H s id:Int) (w:World) (hr:aK W H s=true) (h0:0≤id) (hid:id<cnt W H s):
  Calls Tryz.prog 65 #[.agg #[.int .i64 W, .int .i64 H, .int .i64 s], .int .i64 id] w fun e w'=>
   e= .returned (.agg #[.int .i64 (aR W s id), .int .i64 (aO W s id), .int .i64 (min s (W-aR W s id)), .int .i64 (min s (H-aO W s id))])∧Ext w w':=by
 obtain⟨h1,h2,h3,h4,h5,h6⟩:=rightB_true.1 hr
 have b0:=mI hr
 have b1:=bU W s h5 h6 h1 h2
 unfold aR aO
 have b2:=tD (a:=id) (s:=acr W s) (A:=65536) h0 (by omega) (by omega)
 have b3:0≤id% acr W s∧id% acr W s≤65536:=⟨Int.emod_nonneg _ (by omega),Int.le_trans (aCp h0 (by omega)) (by omega)⟩
 have b4:=cN (a:=id% acr W s) (b:=s) (A:=65536) (B:=16) b3.1 b3.2 (by omega) (by omega)
 have b5:=cN (a:=id/acr W s) (b:=s) (A:=65536) (B:=16) b2.1 b2.2 (by omega) (by omega)
 have k1:IntKind.i64.wrap (id.tdiv (acr W s))=id/acr W s:=oK h0 (by omega) (by omega)
 have k2:id.tmod (acr W s)=id% acr W s:=uZ h0 (by omega) (by omega)
 have k3:IntKind.i64.wrap (id/acr W s*s)=id/acr W s*s:=IntWalk.i64_in _ (by omega)
 have k4:IntKind.i64.wrap (id% acr W s*s)=id% acr W s*s:=IntWalk.i64_in _ (by omega)
 have k5:IntKind.i64.wrap (id% acr W s)=id% acr W s:=IntWalk.i64_in _ (by omega)
 have hs0: ¬acr W s=0:=by omega
 go_enter Tryz.func65,Tryz.ntmps65
 go_wp2_with (first
  |(go_at_call 56;refine(lS _ _ _ _ _ (by omega) (by omega) (by omega) (by omega)).mono ?_;rintro e w1 ⟨rfl,hb1⟩;obtain⟨hc1,hf1⟩:=hb1.cells;have hz1:=hb1.size;(try simp only[zS]at hz1);have z1_0:w.heap.size<w1.heap.size:=(by omega);have z1_1:w.heap.size+1<w1.heap.size:=(by omega)))
 go_region_held3 (fun W=>(∀b o,b<w1.heap.size→W.cell? ⟨b,o,none⟩=w1.cell? ⟨b,o,none⟩)∧Ext w1 W) (first|with_reducible exact bG _|exact aI z_x)
  (fail)
 go_wp2
 all_goals
  refine bodyPost_ret (v:= .agg #[.int .i64 (id% acr W s*s), .int .i64 (id/acr W s*s), .int .i64 (min s (W-id% acr W s*s)), .int .i64 (min s (H-id/acr W s*s))]) ?_ rfl ⟨rfl,z_x⟩
  simp[results,Tryz.results65,go_sem, *]
  try omega
theorem aEq (W H s:Int) (w:World):
  Calls Tryz.prog 75 #[.agg #[.int .i64 W, .int .i64 H], .int .i64 s] w fun e w'=>e= .returned (.bool (aK W H s))∧Ext w w':=by
 go_enter Tryz.func75,Tryz.ntmps75
 go_wp2
 all_goals go_ret
 all_goals exact⟨by simp[aK,bW,fO]<;>omega,z_x⟩
def bO (bx byy bw bh x y:Int):Bool:=decide (bx≤x)&&decide (byy≤y)&&decide (x-bx<bw)&&decide (y-byy<bh)
theorem hasB_true {bx byy bw bh x y:Int}:bO bx byy bw bh x y=true↔bx≤x∧x<bx+bw∧byy≤y∧y<byy+bh:=by
 simp only[bO,Bool.and_eq_true,decide_eq_true_eq];omega
def InI (x:Int):Prop:= -9223372036854775808≤x∧x≤9223372036854775807
set_option maxHeartbeats 1000000 in
theorem pE (bx byy bw bh x y:Int) (w:World) (h1:0≤bx) (h2:0≤byy) (hx:InI x) (hy:InI y):
  Calls Tryz.prog 103 #[.agg #[.int .i64 bx, .int .i64 byy, .int .i64 bw, .int .i64 bh], .agg #[.int .i64 x, .int .i64 y]] w fun e w'=>e= .returned (.bool (bO bx byy bw bh x y))∧Ext w w':=by
 unfold InI at hx hy
 go_enter Tryz.func103,Tryz.ntmps103
 go_wp2
 all_goals go_ret
 all_goals exact⟨by simp[bO]<;>omega,z_x⟩
def jL (W H bx byy bw bh:Int):Bool:=
 decide (0≤bx)&&decide (0≤byy)&&decide (1≤bw)&&decide (1≤bh)&&decide (bx<W)&&decide (byy<H)&&decide (bw≤W-bx)&&decide (bh≤H-byy)
def gU (x dir:Int):Int:=if dir=1 then x+1 else if dir=3 then x-1 else x
def gV (y dir:Int):Int:=if dir=0 then y-1 else if dir=2 then y+1 else y
set_option maxHeartbeats 1000000 in
theorem qJ (x y dir:Int) (w:World) (hx: -4611686018427387904≤x∧x≤4611686018427387904) (hy: -4611686018427387904≤y∧y≤4611686018427387904):
  Calls Tryz.prog 30 #[.agg #[.int .i64 x, .int .i64 y], .int .i64 dir] w fun e w'=>e= .returned (.agg #[.int .i64 (gU x dir), .int .i64 (gV y dir)])∧Ext w w':=by
 by_cases d0:dir=0
 ·subst d0
  go_enter Tryz.func30,Tryz.ntmps30
  go_wp2
  exact bodyPost_ret (v:= .agg #[.int .i64 x, .int .i64 (y-1)]) (by simp[results,Tryz.results30,go_sem, *]) rfl ⟨rfl,z_x⟩
 by_cases d1:dir=1
 ·subst d1
  go_enter Tryz.func30,Tryz.ntmps30
  go_wp2
  exact bodyPost_ret (v:= .agg #[.int .i64 (x+1), .int .i64 y]) (by simp[results,Tryz.results30,go_sem, *]) rfl ⟨rfl,z_x⟩
 by_cases d2:dir=2
 ·subst d2
  go_enter Tryz.func30,Tryz.ntmps30
  go_wp2
  exact bodyPost_ret (v:= .agg #[.int .i64 x, .int .i64 (y+1)]) (by simp[results,Tryz.results30,go_sem, *]) rfl ⟨rfl,z_x⟩
 by_cases d3:dir=3
 ·subst d3
  go_enter Tryz.func30,Tryz.ntmps30
  go_wp2
  exact bodyPost_ret (v:= .agg #[.int .i64 (x-1), .int .i64 y]) (by simp[results,Tryz.results30,go_sem, *]) rfl ⟨rfl,z_x⟩
 have e1:gU x dir=x:=by unfold gU;rw[if_neg d1,if_neg d3]
 have e2:gV y dir=y:=by unfold gV;rw[if_neg d0,if_neg d2]
 rw[e1,e2]
 clear e1 e2
 go_enter Tryz.func30,Tryz.ntmps30
 go_wp2
 exact bodyPost_ret (v:= .agg #[.int .i64 x, .int .i64 y]) (by simp[results,Tryz.results30,go_sem, *]) rfl ⟨rfl,z_x⟩
def jC (x y:Int):Bool:=fO x (-1048576) 1048576&&fO y (-1048576) 1048576
theorem pF (x y:Int) (w:World):Calls Tryz.prog 111 #[.agg #[.int .i64 x, .int .i64 y]] w fun e w'=>e= .returned (.bool (jC x y))∧Ext w w':=by
 go_enter Tryz.func111,Tryz.ntmps111
 go_wp2_with (go_at_call 102;refine(iD _ _ _ _).mono ?_;rintro e w' ⟨rfl,rfl⟩)
 all_goals go_ret
 all_goals exact⟨by simp[jC, *],z_x⟩
def jV (bx byy bw bh:Int):Bool:=fO bw 0 256&&fO bh 0 256&&jC bx byy
theorem rightG_true {bx byy bw bh:Int}:jV bx byy bw bh=true↔0≤bw∧bw≤256∧0≤bh∧bh≤256∧ -1048576≤bx∧bx≤1048576∧ -1048576≤byy∧byy≤1048576:=by
 simp only[jV,jC,Bool.and_eq_true,kU];omega
theorem lV (bx byy bw bh:Int) (w:World):Calls Tryz.prog 116 #[.agg #[.int .i64 bx, .int .i64 byy, .int .i64 bw, .int .i64 bh]] w fun e w'=>e= .returned (.bool (jV bx byy bw bh))∧Ext w w':=by
 go_enter Tryz.func116,Tryz.ntmps116
 go_wp2_with (first
  |(go_at_call 102;refine(iD _ _ _ _).mono ?_;rintro e w' ⟨rfl,rfl⟩)
  |(go_at_call 111;refine(pF _ _ _).mono ?_;rintro e w1 ⟨rfl,hb1⟩;obtain⟨hc1,hf1⟩:=hb1.cells;have hz1:=hb1.size;(try simp only[zS]at hz1);have z1_0:w.heap.size<w1.heap.size:=(by omega)))
 all_goals go_ret
 all_goals exact⟨by simp[jV, *],z_x⟩
def zC (bx byy bw bh x y:Int):Bool:=jV bx byy bw bh&&fO x bx (bx+bw-1)&&fO y byy (byy+bh-1)
theorem sF (bx byy bw bh x y:Int) (w:World):Calls Tryz.prog 67 #[.agg #[.int .i64 bx, .int .i64 byy, .int .i64 bw, .int .i64 bh], .agg #[.int .i64 x, .int .i64 y]] w fun e w'=>e= .returned (.bool (zC bx byy bw bh x y))∧Ext w w':=by
 by_cases hr:jV bx byy bw bh=true
 ·obtain⟨h1,h2,h3,h4,h5,h6,h7,h8⟩:=rightG_true.1 hr
  go_enter Tryz.func67,Tryz.ntmps67
  go_wp2_with (first
   |(go_at_call 116;refine(lV _ _ _ _ _).mono ?_;rintro e w1 ⟨rfl,hb1⟩;obtain⟨hc1,hf1⟩:=hb1.cells;have hz1:=hb1.size;(try simp only[zS]at hz1);have z1_0:w.heap.size<w1.heap.size:=(by omega);have z1_1:w.heap.size+1<w1.heap.size:=(by omega))
   |(go_at_call 102;refine(iD _ _ _ _).mono ?_;rintro e w' ⟨rfl,rfl⟩))
  all_goals go_ret
  all_goals exact⟨by simp[zC, *],z_x⟩
 have hr':jV bx byy bw bh=false:=by simpa using hr
 go_enter Tryz.func67,Tryz.ntmps67
 go_wp2_with (first
  |(go_at_call 116;refine(lV _ _ _ _ _).mono ?_;rintro e w1 ⟨rfl,hb1⟩;obtain⟨hc1,hf1⟩:=hb1.cells;have hz1:=hb1.size;(try simp only[zS]at hz1);have z1_0:w.heap.size<w1.heap.size:=(by omega);have z1_1:w.heap.size+1<w1.heap.size:=(by omega)))
 all_goals go_ret
 all_goals exact⟨by simp[zC, *],z_x⟩
def qX (W H bx byy bw bh:Int):Bool:=jV bx byy bw bh&&decide (0<bw)&&decide (0<bh)&&inB W H bx byy&&inB W H (bx+bw-1) (byy+bh-1)
theorem aG7 (W H bx byy bw bh:Int) (w:World):Calls Tryz.prog 115 #[.agg #[.int .i64 W, .int .i64 H], .agg #[.int .i64 bx, .int .i64 byy, .int .i64 bw, .int .i64 bh]] w fun e w'=>e= .returned (.bool (qX W H bx byy bw bh))∧Ext w w':=by
 have I1:=aA (fun w'=>gK W H bx byy w')
 have I2:=aA (fun w'=>gK W H (bx+bw-1) (byy+bh-1) w')
 cases hr:jV bx byy bw bh
 ·have R1:=aA (fun w'=>lV bx byy bw bh w')
  rw[hr]at R1
  rw[show qX W H bx byy bw bh=false by simp[qX,hr]]
  clear hr
  go_enter Tryz.func115,Tryz.ntmps115
  go_wp2_with (go_at_call 116;refine(R1.out _).mono ?_;rintro e w1 ⟨rfl,hb1⟩)
  go_ret
  exact⟨rfl,z_x⟩
 obtain⟨h1,h2,h3,h4,h5,h6,h7,h8⟩:=rightG_true.1 hr
 have R1:=aA (fun w'=>lV bx byy bw bh w')
 rw[hr]at R1
 have k1:IntKind.i64.wrap (bx+bw)=bx+bw:=IntWalk.i64_in _ (by omega)
 have k2:IntKind.i64.wrap (bx+bw-1)=bx+bw-1:=IntWalk.i64_in _ (by omega)
 have k3:IntKind.i64.wrap (byy+bh)=byy+bh:=IntWalk.i64_in _ (by omega)
 have k4:IntKind.i64.wrap (byy+bh-1)=byy+bh-1:=IntWalk.i64_in _ (by omega)
 unfold qX
 rw[hr]
 by_cases p1:0<bw
 ·by_cases p2:0<bh
  ·simp only[p1,p2,decide_true,Bool.true_and]
   generalize inB W H bx byy=b1 at *
   generalize inB W H (bx+bw-1) (byy+bh-1)=b2 at *
   clear hr h1 h2 h3 h4 h5 h6 h7 h8
   cases b1
   ·go_enter Tryz.func115,Tryz.ntmps115
    go_wp2_with (go_at_call 116;refine(R1.out _).mono ?_;rintro e w1 ⟨rfl,hb1⟩;obtain⟨hc1,hf1⟩:=hb1.cells;have hz1:=hb1.size;(try simp only[zS]at hz1);have z1_0:w.heap.size<w1.heap.size:=(by omega);have z1_1:w.heap.size+1<w1.heap.size:=(by omega))
    refine(I1.out _).mono ?_
    rintro e w2 ⟨rfl,hb2⟩
    obtain⟨hc2,hf2⟩:=hb2.cells;have hz2:=hb2.size;(try simp only[zS]at hz2);have z2_0:w.heap.size<w2.heap.size:=(by omega);have z2_1:w.heap.size+1<w2.heap.size:=(by omega)
    go_wp2_with fail
    go_ret
    exact⟨rfl,z_x⟩
   go_enter Tryz.func115,Tryz.ntmps115
   go_wp2_with (go_at_call 116;refine(R1.out _).mono ?_;rintro e w1 ⟨rfl,hb1⟩;obtain⟨hc1,hf1⟩:=hb1.cells;have hz1:=hb1.size;(try simp only[zS]at hz1);have z1_0:w.heap.size<w1.heap.size:=(by omega);have z1_1:w.heap.size+1<w1.heap.size:=(by omega))
   refine(I1.out _).mono ?_
   rintro e w2 ⟨rfl,hb2⟩
   obtain⟨hc2,hf2⟩:=hb2.cells;have hz2:=hb2.size;(try simp only[zS]at hz2);have z2_0:w.heap.size<w2.heap.size:=(by omega);have z2_1:w.heap.size+1<w2.heap.size:=(by omega)
   go_wp2_with fail
   refine(I2.out _).mono ?_
   rintro e w3 ⟨rfl,hb3⟩
   obtain⟨hc3,hf3⟩:=hb3.cells;have hz3:=hb3.size;(try simp only[zS]at hz3);have z3_0:w.heap.size<w3.heap.size:=(by omega);have z3_1:w.heap.size+1<w3.heap.size:=(by omega)
   go_wp2_with fail
   go_ret
   exact⟨by simp,z_x⟩
  rw[show decide (0<bh)=false by simpa using p2]
  simp only[Bool.and_false,Bool.false_and]
  go_enter Tryz.func115,Tryz.ntmps115
  go_wp2_with (go_at_call 116;refine(R1.out _).mono ?_;rintro e w1 ⟨rfl,hb1⟩;obtain⟨hc1,hf1⟩:=hb1.cells;have hz1:=hb1.size;(try simp only[zS]at hz1);have z1_0:w.heap.size<w1.heap.size:=(by omega);have z1_1:w.heap.size+1<w1.heap.size:=(by omega))
  go_ret
  exact⟨rfl,z_x⟩
 rw[show decide (0<bw)=false by simpa using p1]
 simp only[Bool.and_false,Bool.false_and]
 go_enter Tryz.func115,Tryz.ntmps115
 go_wp2_with (go_at_call 116;refine(R1.out _).mono ?_;rintro e w1 ⟨rfl,hb1⟩;obtain⟨hc1,hf1⟩:=hb1.cells;have hz1:=hb1.size;(try simp only[zS]at hz1);have z1_0:w.heap.size<w1.heap.size:=(by omega);have z1_1:w.heap.size+1<w1.heap.size:=(by omega))
 go_ret
 exact⟨rfl,z_x⟩
theorem aIy {W H bx byy bw bh:Int} (hm:bW W H=true):qX W H bx byy bw bh=jL W H bx byy bw bh:=by
 have:=mayB_true.1 hm
 apply Bool.eq_iff_iff.2
 simp only[qX,jL,Bool.and_eq_true,decide_eq_true_eq,inB_true,rightG_true]
 omega
theorem fitsR_true {W H bx byy bw bh:Int}:jL W H bx byy bw bh=true↔0≤bx∧0≤byy∧1≤bw∧1≤bh∧bx+bw≤W∧byy+bh≤H:=by
 simp only[jL,Bool.and_eq_true,decide_eq_true_eq];omega
theorem uP {W H bx byy bw bh x y:Int} (hm:bW W H=true) (hf:jL W H bx byy bw bh=true):zC bx byy bw bh x y=bO bx byy bw bh x y:=by
 have:=mayB_true.1 hm
 have:=fitsR_true.1 hf
 apply Bool.eq_iff_iff.2
 rw[hasB_true]
 simp only[zC,Bool.and_eq_true,kU,rightG_true]
 omega
end Go.Proofs.YtaellcgglldjaaaGreat

