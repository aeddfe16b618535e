/- Part of a proof: StarJ StarM0 HierV. -/
import Derived.Test.YtaellcgglldjaaaGreatHierFindsQ38
import Derived.Deep.Cut
import Derived.Test.YtaellcgglldjaaaGreatHierFindsQ02
import Derived.Test.YtaellcgglldjaaaGreatHierFindsQ30
import Derived.Test.YtaellcgglldjaaaGreatHierFindsQ35
set_option linter.all false
set_option linter.unusedVariables false
set_option linter.unusedSimpArgs false
namespace Go.Proofs.YtaellcgglldjaaaGreat
open Go.RowKit
def eU (W H:Int) (n:Nat) (x y tx ty b:Int):Int:=
 if aX W H n=0 then(if inB W H x y=true∧inB W H tx ty=true then(if b<0 then 1 else 0) else 10) else aX W H n
theorem findE_ok {W H:Int} {n:Nat} {x y tx ty b:Int}:eU W H n x y tx ty b=0↔aX W H n=0∧inB W H x y=true∧inB W H tx ty=true∧0≤b:=by
 unfold eU
 split
 ·next h=>
  split
  ·next h2=>
   split
   ·next h3=>exact⟨(fun e=>absurd e (by decide)),(fun e=>by omega)⟩
   next h3=>exact⟨fun _=>⟨h,h2.1,h2.2,by omega⟩,fun _=>rfl⟩
  next h2=>exact⟨(fun e=>absurd e (by decide)),fun e=>absurd ⟨e.2.1,e.2.2.1⟩ h2⟩
 next h=>exact⟨fun e=>absurd e h,fun e=>absurd e.1 h⟩
set_option maxRecDepth 100000 in
theorem aHr {w:World} (W H:Int) (a:Option Addr) (n c:Nat) (x y tx ty b:Int) (he:eU W H n x y tx ty b≠0):
  Calls Tryz.prog 25 #[.agg #[.int .i64 W, .int .i64 H, .slice a n c], .agg #[.int .i64 x, .int .i64 y], .agg #[.int .i64 tx, .int .i64 ty], .int .i64 b] w fun e w'=>e= .returned (.tuple #[.agg #[.slice none 0 0, .int .u64 0, .int .i64 0], .int .i64 (eU W H n x y tx ty b)])∧Ext w w':=by
 have HC:=aA (fun w'=>cX W H a n c w')
 have H1:=aA (fun w'=>gK W H x y w')
 have H2:=aA (fun w'=>gK W H tx ty w')
 by_cases hc:aX W H n=0
 ·rw[hc]at HC
  by_cases hi:inB W H x y=true
  ·rw[hi]at H1
   by_cases ht:inB W H tx ty=true
   ·rw[ht]at H2
    have hb:b<0:=by
     rcases Int.lt_or_le b 0 with h|h
     ·exact h
     exact absurd (findE_ok.2 ⟨hc,hi,ht,h⟩) he
    have e0:eU W H n x y tx ty b=1:=by unfold eU;rw[if_pos hc,if_pos ⟨hi,ht⟩,if_pos hb]
    have hb':decide (b<0)=true:=by simpa using hb
    rw[e0]
    clear e0 he hc hi ht hb
    go_enter Tryz.func25,Tryz.ntmps25
    go_wp2_with fail
    refine(HC.out _).mono ?_
    rintro e w1 ⟨rfl,hb1⟩
    obtain⟨hc1,hf1⟩:=hb1.cells;have hz1:=hb1.size;(try simp only[zS]at hz1);have z1_0:w.heap.size<w1.heap.size:=(by omega);have z1_1:w.heap.size+1<w1.heap.size:=(by omega);have z1_2:w.heap.size+2<w1.heap.size:=(by omega);have z1_3:w.heap.size+3<w1.heap.size:=(by omega)
    go_wp2_with fail
    refine(H1.out _).mono ?_
    rintro e w2 ⟨rfl,hb2⟩
    obtain⟨hc2,hf2⟩:=hb2.cells;have hz2:=hb2.size;(try simp only[zS]at hz2);have z2_0:w.heap.size<w2.heap.size:=(by omega);have z2_1:w.heap.size+1<w2.heap.size:=(by omega);have z2_2:w.heap.size+2<w2.heap.size:=(by omega);have z2_3:w.heap.size+3<w2.heap.size:=(by omega)
    go_wp2_with fail
    refine(H2.out _).mono ?_
    rintro e w3 ⟨rfl,hb3⟩
    obtain⟨hc3,hf3⟩:=hb3.cells;have hz3:=hb3.size;(try simp only[zS]at hz3);have z3_0:w.heap.size<w3.heap.size:=(by omega);have z3_1:w.heap.size+1<w3.heap.size:=(by omega);have z3_2:w.heap.size+2<w3.heap.size:=(by omega);have z3_3:w.heap.size+3<w3.heap.size:=(by omega)
    go_wp2_with fail
    exact bodyPost_ret (v:= .tuple #[.agg #[.slice none 0 0, .int .u64 0, .int .i64 0], .int .i64 1]) (by simp[results,Tryz.results25,go_sem, *]) rfl ⟨rfl,z_x⟩
   have ht':inB W H tx ty=false:=by simpa using ht
   rw[ht']at H2
   have e0:eU W H n x y tx ty b=10:=by unfold eU;rw[if_pos hc,if_neg (fun e=>ht e.2)]
   rw[e0]
   clear e0 he hc hi ht ht'
   go_enter Tryz.func25,Tryz.ntmps25
   go_wp2_with fail
   refine(HC.out _).mono ?_
   rintro e w1 ⟨rfl,hb1⟩
   obtain⟨hc1,hf1⟩:=hb1.cells;have hz1:=hb1.size;(try simp only[zS]at hz1);have z1_0:w.heap.size<w1.heap.size:=(by omega);have z1_1:w.heap.size+1<w1.heap.size:=(by omega);have z1_2:w.heap.size+2<w1.heap.size:=(by omega);have z1_3:w.heap.size+3<w1.heap.size:=(by omega)
   go_wp2_with fail
   refine(H1.out _).mono ?_
   rintro e w2 ⟨rfl,hb2⟩
   obtain⟨hc2,hf2⟩:=hb2.cells;have hz2:=hb2.size;(try simp only[zS]at hz2);have z2_0:w.heap.size<w2.heap.size:=(by omega);have z2_1:w.heap.size+1<w2.heap.size:=(by omega);have z2_2:w.heap.size+2<w2.heap.size:=(by omega);have z2_3:w.heap.size+3<w2.heap.size:=(by omega)
   go_wp2_with fail
   refine(H2.out _).mono ?_
   rintro e w3 ⟨rfl,hb3⟩
   obtain⟨hc3,hf3⟩:=hb3.cells;have hz3:=hb3.size;(try simp only[zS]at hz3);have z3_0:w.heap.size<w3.heap.size:=(by omega);have z3_1:w.heap.size+1<w3.heap.size:=(by omega);have z3_2:w.heap.size+2<w3.heap.size:=(by omega);have z3_3:w.heap.size+3<w3.heap.size:=(by omega)
   go_wp2_with fail
   exact bodyPost_ret (v:= .tuple #[.agg #[.slice none 0 0, .int .u64 0, .int .i64 0], .int .i64 10]) (by simp[results,Tryz.results25,go_sem, *]) rfl ⟨rfl,z_x⟩
  have hi':inB W H x y=false:=by simpa using hi
  rw[hi']at H1
  have e0:eU W H n x y tx ty b=10:=by unfold eU;rw[if_pos hc,if_neg (fun e=>hi e.1)]
  rw[e0]
  clear e0 he hc hi hi'
  go_enter Tryz.func25,Tryz.ntmps25
  go_wp2_with fail
  refine(HC.out _).mono ?_
  rintro e w1 ⟨rfl,hb1⟩
  obtain⟨hc1,hf1⟩:=hb1.cells;have hz1:=hb1.size;(try simp only[zS]at hz1);have z1_0:w.heap.size<w1.heap.size:=(by omega);have z1_1:w.heap.size+1<w1.heap.size:=(by omega);have z1_2:w.heap.size+2<w1.heap.size:=(by omega);have z1_3:w.heap.size+3<w1.heap.size:=(by omega)
  go_wp2_with fail
  refine(H1.out _).mono ?_
  rintro e w2 ⟨rfl,hb2⟩
  obtain⟨hc2,hf2⟩:=hb2.cells;have hz2:=hb2.size;(try simp only[zS]at hz2);have z2_0:w.heap.size<w2.heap.size:=(by omega);have z2_1:w.heap.size+1<w2.heap.size:=(by omega);have z2_2:w.heap.size+2<w2.heap.size:=(by omega);have z2_3:w.heap.size+3<w2.heap.size:=(by omega)
  go_wp2_with fail
  exact bodyPost_ret (v:= .tuple #[.agg #[.slice none 0 0, .int .u64 0, .int .i64 0], .int .i64 10]) (by simp[results,Tryz.results25,go_sem, *]) rfl ⟨rfl,z_x⟩
 have e0:eU W H n x y tx ty b=aX W H n:=by unfold eU;rw[if_neg hc]
 rw[e0]
 clear e0 he
 generalize aX W H n=q at *
 have hq:(q !=0)=true:=by simpa using hc
 clear hc
 go_enter Tryz.func25,Tryz.ntmps25
 go_wp2_with fail
 refine(HC.out _).mono ?_
 rintro e w1 ⟨rfl,hb1⟩
 obtain⟨hc1,hf1⟩:=hb1.cells;have hz1:=hb1.size;(try simp only[zS]at hz1);have z1_0:w.heap.size<w1.heap.size:=(by omega);have z1_1:w.heap.size+1<w1.heap.size:=(by omega);have z1_2:w.heap.size+2<w1.heap.size:=(by omega);have z1_3:w.heap.size+3<w1.heap.size:=(by omega)
 go_wp2_with fail
 exact bodyPost_ret (v:= .tuple #[.agg #[.slice none 0 0, .int .u64 0, .int .i64 0], .int .i64 q]) (by simp[results,Tryz.results25,go_sem, *]) rfl ⟨rfl,z_x⟩
end Go.Proofs.YtaellcgglldjaaaGreat

namespace Go.Proofs.YtaellcgglldjaaaGreat
open Go.RowKit
theorem wK (W H x y:Int) (w:World) (hm:bW W H=true):
  Calls Tryz.prog 19 #[.agg #[.int .i64 W, .int .i64 H], .agg #[.int .i64 x, .int .i64 y]] w fun e w'=>e= .returned (.bool (inB W H x y))∧Ext w w':=by
 rw[aD1 hm]
 have e0:bO 0 0 W H x y=(decide (0≤x)&&decide (0≤y)&&decide (x<W)&&decide (y<H)):=by
  rw[Bool.eq_iff_iff,hasB_true]
  simp
  omega
 rw[e0]
 clear hm e0
 go_enter Tryz.func19,Tryz.ntmps19
 go_wp2
 all_goals go_ret
 all_goals exact⟨by simp<;>omega,z_x⟩
end Go.Proofs.YtaellcgglldjaaaGreat

namespace Go.Proofs.YtaellcgglldjaaaGreat
open Go.RowKit
set_option maxRecDepth 100000 in
theorem aJq (W H:Int) (a:Option Addr) (n c:Nat) (s fx fy tx ty b:Int) (w:World) (hm:bW W H=true):
  Calls Tryz.prog 13 #[.agg #[.int .i64 W, .int .i64 H, .slice a n c], .agg #[.int .i64 s, .int .i64 fx, .int .i64 fy, .int .i64 tx, .int .i64 ty, .int .i64 b]] w fun e w'=>e= .returned (.bool (inB W H fx fy&&inB W H tx ty))∧Ext w w':=by
 have HI1:=aA (fun(w':World)=>wK W H fx fy w' hm)
 have HI2:=aA (fun(w':World)=>wK W H tx ty w' hm)
 clear hm
 generalize inB W H fx fy=b1 at *
 generalize inB W H tx ty=b2 at *
 go_enter Tryz.func13,Tryz.ntmps13
 go_upto_region 1 with(fail)
 obtain⟨w1,hw1⟩: ∃z,z=(w.alloc (.cells #[.int .i64 W, .int .i64 H, .slice a n c] 26)).alloc (.cells #[.int .i64 s, .int .i64 fx, .int .i64 fy, .int .i64 tx, .int .i64 ty, .int .i64 b] 30):=⟨_,rfl⟩
 have X1:=aA (show Ext w w1 by rw[hw1];exact((Ext.refl _).alloc _).alloc _)
 have F1:=aA (show Blk w1 w.heap.size 26 #[.int .i64 W, .int .i64 H, .slice a n c] by rw[hw1];exact(Blk.new_ rfl).over)
 have Q1:=aA (show Blk w1 (w.heap.size+1) 30 #[.int .i64 s, .int .i64 fx, .int .i64 fy, .int .i64 tx, .int .i64 ty, .int .i64 b] by rw[hw1];exact Blk.new_ (by simp))
 rw[←hw1]
 obtain⟨fb,hfb⟩: ∃z,w.heap.size=z:=⟨_,rfl⟩
 rw[hfb]at F1 Q1⊢
 clear hw1 hfb
 have q0:=Q1.out.at 0 rfl;have q1:=Q1.out.at 1 rfl;have q2:=Q1.out.at 2 rfl;have q3:=Q1.out.at 3 rfl;have q4:=Q1.out.at 4 rfl;have q5:=Q1.out.at 5 rfl;have qz:=Q1.out.lt
 have f0:=F1.out.at 0 rfl;have f1:=F1.out.at 1 rfl;have f2:=F1.out.at 2 rfl;have fz:=F1.out.lt
 go_wp2_with fail
 refine(HI1.out _).mono ?_
 rintro e w2 ⟨rfl,x2⟩
 have X2:=aA (X1.out.trans x2)
 have F2:=aA (F1.out.ext x2)
 have Q2:=aA (Q1.out.ext x2)
 clear x2 q0 q1 q2 q3 q4 q5 qz f0 f1 f2 fz F1 Q1 X1
 cases b1
 ·clear HI1 HI2
  go_wp2_with fail
  go_ret
  exact⟨rfl,X2.out⟩
 have q0:=Q2.out.at 0 rfl;have q1:=Q2.out.at 1 rfl;have q2:=Q2.out.at 2 rfl;have q3:=Q2.out.at 3 rfl;have q4:=Q2.out.at 4 rfl;have q5:=Q2.out.at 5 rfl;have qz:=Q2.out.lt
 have f0:=F2.out.at 0 rfl;have f1:=F2.out.at 1 rfl;have f2:=F2.out.at 2 rfl;have fz:=F2.out.lt
 go_wp2_with fail
 refine(HI2.out _).mono ?_
 rintro e w3 ⟨rfl,x3⟩
 have X3:=aA (X2.out.trans x3)
 clear x3
 go_wp2_with fail
 go_ret
 exact⟨rfl,X3.out⟩
theorem gM {α:Type} {E:Enc α} {w:World} {a:Option Addr} {n c:Nat} {l:List α} (h:Reads E w (.slice a n c) l) {k:Nat} {y:α} (hk:l[k]? =some y):
  ∃b off,a=some ⟨b,off,none⟩∧b<w.heap.size∧ ∀(j:Nat) (u:Value),(E.cells y)[j]? =some u→w.cell? ⟨b,off+(k*E.size+j),none⟩=some u:=by
 rcases h with⟨_,rfl⟩|⟨b,off,cap,hv,hb,hc⟩
 ·simp at hk
 injection hv with h1 _ _
 exact⟨b,off,h1,hb,hc k y hk⟩
end Go.Proofs.YtaellcgglldjaaaGreat

