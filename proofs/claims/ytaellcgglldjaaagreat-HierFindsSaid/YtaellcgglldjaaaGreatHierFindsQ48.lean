/- Part of a proof: HierY LawHF ArgF ArgH. -/
import Derived.Test.YtaellcgglldjaaaGreatHierFindsQ47
import Derived.Test.YtaellcgglldjaaaGreatHierFindsQ39
import Derived.Test.YtaellcgglldjaaaGreatHierFindsQ40
import Derived.Test.YtaellcgglldjaaaGreatHierFindsQ32
import Derived.Test.YtaellcgglldjaaaGreatHierFindsQ27
import Derived.Test.YtaellcgglldjaaaGreatHierFindsQ02
import Derived.ProofKit
import Derived.OpenShut
import Derived.ShutString
import Derived.ChangeOld
import Derived.Test.YtaellcgglldjaaaGreatHierFindsQ03
import Derived.Deep.Slices
import Derived.Test.YtaellcgglldjaaaGreatHierFindsQ01
set_option linter.all false
set_option linter.unusedVariables false
set_option linter.unusedSimpArgs false
namespace Go.Proofs.YtaellcgglldjaaaGreat
open Go.RowKit
set_option maxRecDepth 100000 in
theorem aJw {w:World} (W H:Int) (a:Option Addr) (n c:Nat) (s:Int):
  Calls Tryz.prog 33 #[.agg #[.int .i64 W, .int .i64 H, .slice a n c], .int .i64 s] w fun e w'=>e= .returned (.int .i64 (jQ W H n s))∧Ext w w':=by
 have H1:=aA (fun w'=>aA0 W H a n c w')
 have H2:=aA (fun w'=>aEq W H s w')
 by_cases h0:aX W H n=0
 ·rw[h0]at H1
  by_cases h1:aK W H s=true
  ·rw[h1]at H2
   have he:jQ W H n s=0:=by unfold jQ;rw[if_pos h0,if_pos h1]
   rw[he]
   clear h0 h1 he
   go_enter Tryz.func33,Tryz.ntmps33
   go_wp2_with (first
    |(go_at_call 74;refine(H1.out _).mono ?_;rintro e w1 ⟨rfl,hb1⟩;obtain⟨hc1,hf1⟩:=hb1.cells;have hz1:=hb1.size;(try simp only[zS]at hz1);have z1_0:w.heap.size<w1.heap.size:=(by omega))
    |(go_at_call 75;refine(H2.out _).mono ?_;rintro e w2 ⟨rfl,hb2⟩;obtain⟨hc2,hf2⟩:=hb2.cells;have hz2:=hb2.size;(try simp only[zS]at hz2);have z2_0:w.heap.size<w2.heap.size:=(by omega)))
   go_ret
   exact⟨rfl,z_x⟩
  have h1:aK W H s=false:=by simpa using h1
  rw[h1]at H2
  have he:jQ W H n s=10:=by unfold jQ;rw[if_pos h0,if_neg (by rw[h1];simp)]
  rw[he]
  clear h0 h1 he
  go_enter Tryz.func33,Tryz.ntmps33
  go_wp2_with (first
   |(go_at_call 74;refine(H1.out _).mono ?_;rintro e w1 ⟨rfl,hb1⟩;obtain⟨hc1,hf1⟩:=hb1.cells;have hz1:=hb1.size;(try simp only[zS]at hz1);have z1_0:w.heap.size<w1.heap.size:=(by omega))
   |(go_at_call 75;refine(H2.out _).mono ?_;rintro e w2 ⟨rfl,hb2⟩;obtain⟨hc2,hf2⟩:=hb2.cells;have hz2:=hb2.size;(try simp only[zS]at hz2);have z2_0:w.heap.size<w2.heap.size:=(by omega)))
  go_ret
  exact⟨rfl,z_x⟩
 have he:jQ W H n s=aX W H n:=by unfold jQ;rw[if_neg h0]
 rw[he]
 generalize aX W H n=er at *
 have hq:(er==0)=false:=by simpa using h0
 clear h0 he
 go_enter Tryz.func33,Tryz.ntmps33
 go_wp2_with (go_at_call 74;refine(H1.out _).mono ?_;rintro e w1 ⟨rfl,hb1⟩;obtain⟨hc1,hf1⟩:=hb1.cells;have hz1:=hb1.size;(try simp only[zS]at hz1);have z1_0:w.heap.size<w1.heap.size:=(by omega))
 go_ret
 exact⟨rfl,z_x⟩
set_option maxRecDepth 100000 in
theorem wF (W H:Int) (a:Option Addr) (n c:Nat) (s fx fy tx ty b:Int) (w:World):
  Calls Tryz.prog 9 #[.agg #[.int .i64 W, .int .i64 H, .slice a n c], .agg #[.int .i64 s, .int .i64 fx, .int .i64 fy, .int .i64 tx, .int .i64 ty, .int .i64 b]] w fun e w'=>e= .returned (.bool (decide (n≤150)&&decide (jQ W H n s=0)))∧Ext w w':=by
 have HM:=aA (fun(w':World)=>aJw (w:=w') W H a n c s)
 by_cases hn:n≤150
 ·have hb:decide ((n:Int)≤150)=true:=by simp;omega
  rw[show decide (n≤150)=true by simpa using hn,Bool.true_and]
  obtain⟨er,her⟩: ∃z,jQ W H n s=z:=⟨_,rfl⟩
  rw[her]at HM⊢
  have hz:(er==0)=decide (er=0):=by rw[Bool.eq_iff_iff];simp
  clear hn her
  go_enter Tryz.func9,Tryz.ntmps9
  go_wp2_with (go_at_call 33;refine(HM.out _).mono ?_;rintro e w1 ⟨rfl,hb1⟩;obtain⟨hc1,hf1⟩:=hb1.cells;have hz1:=hb1.size;(try simp only[zS]at hz1);have z1_0:w.heap.size<w1.heap.size:=(by omega))
  go_ret
  exact⟨by rw[←hz]<;>rfl,z_x⟩
 have hb:decide ((n:Int)≤150)=false:=by simp;omega
 rw[show decide (n≤150)=false by simpa using hn,Bool.false_and]
 clear hn HM
 go_enter Tryz.func9,Tryz.ntmps9
 go_wp2_with fail
 go_ret
 exact⟨rfl,z_x⟩
theorem aJo {W H s:Int} {l:List Int} (hu:cV l) (he:jQ W H l.length s=0):Good W H s l:=by
 unfold jQ at he
 by_cases h0:aX W H l.length=0
 ·rw[if_pos h0]at he
  by_cases hr2:aK W H s=true
  ·exact⟨h0,hr2,hu⟩
  rw[if_neg hr2]at he;cases he
 rw[if_neg h0]at he;exact absurd he h0
end Go.Proofs.YtaellcgglldjaaaGreat

namespace Go.Proofs.YtaellcgglldjaaaGreat
open Go.RowKit
theorem aBv {w:World} {q:gC} {R:Nat→Prop} {W H s:Int} {l:List Int} {NN:Nat} (h:RefS w q R W H s l NN) (hl:l.length≤150) {fx fy tx ty b:Int} (hf:inB W H fx fy=true) (ht:inB W H tx ty=true) (hb:0≤b):
  Calls Tryz.prog 14 #[.pointer (some ⟨q.b,0,none⟩), .agg #[.int .i64 fx, .int .i64 fy], .agg #[.int .i64 tx, .int .i64 ty], .int .i64 b] w fun e w'=>Ext w w'∧
   ∃(p:List aB) (cc k er:Int) (v:Value),HSrch W H s l (fx,fy) (tx,ty) b p cc k er∧e= .returned (.tuple #[.agg #[v, .int .u64 cc, .int .i64 k], .int .i64 er])∧Own cellE w' w.heap.size 28 v p:=by
 by_cases hz:aL l W (fx,fy)=0∨aL l W (tx,ty)=0
 ·refine(aA3 h hf ht hz).mono ?_
  rintro e w' ⟨rfl,hx⟩
  exact⟨hx,[],0,0,22,_, .inr (.inr (.inl ⟨⟨hf,ht⟩,hb,hz,rfl,rfl,rfl,rfl⟩)),rfl,Own.nil _ _ _ _⟩
 have h1:=bX h.good.u16 W (fx,fy)
 have h2:=bX h.good.u16 W (tx,ty)
 refine(aA2 h hl hf ht (by omega) (by omega)).mono ?_
 rintro e w' ⟨hx,p,cc,k,er,v,hr,rfl,hp⟩
 exact⟨hx,p,cc,k,er,v, .inr (.inr (.inr ⟨⟨hf,ht⟩,hb,hz,h.good,hl,hr⟩)),rfl,hp⟩
theorem aGj {W H s:Int} {l:List Int} {f t:aB} {b:Int} {p:List aB} {c k e:Int} (h:HSrch W H s l f t b p c k e) (hn: ¬(inB W H f.1 f.2=true∧inB W H t.1 t.2=true)):p=[]∧c=0∧k=0∧e=10:=by
 rcases h with⟨_,h⟩|⟨h,_⟩|⟨h,_⟩|⟨h,_⟩
 ·exact h
 all_goals exact absurd h hn
theorem aGi {W H s:Int} {l:List Int} {f t:aB} {b:Int} {p:List aB} {c k e:Int} (h:HSrch W H s l f t b p c k e) (hn:inB W H f.1 f.2=true∧inB W H t.1 t.2=true) (hb:b<0):p=[]∧c=0∧k=0∧e=1:=by
 rcases h with⟨h,_⟩|⟨_,_,h⟩|⟨_,h,_⟩|⟨_,h,_⟩
 ·exact absurd hn h
 ·exact h
 all_goals omega
set_option maxRecDepth 100000 in
theorem aMv {w:World} (W H:Int) (a:Option Addr) (n c:Nat) (s fx fy tx ty b:Int) (hm:(decide (n≤150)&&decide (jQ W H n s=0))=false):
  Calls Tryz.prog 3 #[.agg #[.int .i64 W, .int .i64 H, .slice a n c], .agg #[.int .i64 s, .int .i64 fx, .int .i64 fy, .int .i64 tx, .int .i64 ty, .int .i64 b]] w fun e w'=>e= .returned (.bool true)∧Ext w w':=by
 have HM:=aA (fun(w':World)=>wF W H a n c s fx fy tx ty b w')
 rw[hm]at HM
 clear hm
 go_enter Tryz.func3,Tryz.ntmps3
 go_upto_region 1 with(fail)
 obtain⟨w1,hw1⟩: ∃z,z=(w.alloc (.cells #[.int .i64 W, .int .i64 H, .slice a n c] 26)).alloc (.cells #[.int .i64 s, .int .i64 fx, .int .i64 fy, .int .i64 tx, .int .i64 ty, .int .i64 b] 30):=⟨_,rfl⟩
 have X1:=aA (show Ext w w1 by rw[hw1];exact((Ext.refl _).alloc _).alloc _)
 have F1:=aA (show Blk w1 w.heap.size 26 #[.int .i64 W, .int .i64 H, .slice a n c] by rw[hw1];exact(Blk.new_ rfl).over)
 have Q1:=aA (show Blk w1 (w.heap.size+1) 30 #[.int .i64 s, .int .i64 fx, .int .i64 fy, .int .i64 tx, .int .i64 ty, .int .i64 b] by rw[hw1];exact Blk.new_ (by simp))
 rw[←hw1]
 obtain⟨fb,hfb⟩: ∃z,w.heap.size=z:=⟨_,rfl⟩
 rw[hfb]at F1 Q1⊢
 clear hw1 hfb
 have q0:=Q1.out.at 0 rfl;have q1:=Q1.out.at 1 rfl;have q2:=Q1.out.at 2 rfl;have q3:=Q1.out.at 3 rfl;have q4:=Q1.out.at 4 rfl;have q5:=Q1.out.at 5 rfl;have qz:=Q1.out.lt
 have f0:=F1.out.at 0 rfl;have f1:=F1.out.at 1 rfl;have f2:=F1.out.at 2 rfl;have fz:=F1.out.lt
 go_wp2_with fail
 refine(HM.out _).mono ?_
 rintro e w2 ⟨rfl,x2⟩
 have X2:=aA (X1.out.trans x2)
 clear x2
 go_wp2_with (go_at_call 10;refine(kM _).mono ?_;rintro e wz ⟨rfl,xz⟩;have XZ:=aA (X2.out.trans xz);clear xz)
 go_ret
 exact⟨rfl,XZ.out⟩
set_option maxRecDepth 100000 in
set_option maxHeartbeats 16000000 in
theorem aM8 {w:World} {W H:Int} {a:Option Addr} {l:List Int} (c:Nat) {s:Int} (fx fy tx ty b:Int) (g:Good W H s l) (hl:l.length≤150) (hr:Row16 w a l) (he:jQ W H l.length s=0):
  Calls Tryz.prog 3 #[.agg #[.int .i64 W, .int .i64 H, .slice a l.length c], .agg #[.int .i64 s, .int .i64 fx, .int .i64 fy, .int .i64 tx, .int .i64 ty, .int .i64 b]] w fun e w'=>e= .returned (.bool true)∧Ext w w':=by
 have HM:=aA (fun(w':World)=>wF W H a l.length c s fx fy tx ty b w')
 rw[he,show decide (l.length≤150)=true by simpa using hl]at HM
 simp only[decide_true,Bool.true_and]at HM
 have hgl:=vW g hl
 have HNW:=aA (fun(w':World) (x:Ext w w')=>wL (w:=w') c g (hr.ext x) (by omega))
 have HFI:=aA (fun(p:Spot) (R:Nat→Prop) (w':World) (h:WorldAt w' p R W H s l)=>tL h g hl hgl (fx,fy) (tx,ty) b)
 have HO:=aA (fun(w':World)=>aJq W H a l.length c s fx fy tx ty b w' (checkE_ok.1 g.ok).1)
 have HRN:=aA (fun(w':World) (x:Ext w w')=>aEo (w:=w') c g (hr.ext x) (by omega))
 have HRF:=aA (fun(hf:inB W H fx fy=true) (ht:inB W H tx ty=true) (hb:0≤b) (q:gC) (R:Nat→Prop) (w':World) (h:aKi w' q R W H s l)=>aBv h hl hf ht hb)
 have HLS:=aA (fun(p:List aB) (c k e:Int) (h:HSrch W H s l (fx,fy) (tx,ty) b p c k e)=>aM9 h)
 simp only at HFI
 obtain⟨n,hn⟩: ∃z,l.length=z:=⟨_,rfl⟩
 rw[hn]at HNW HM HO HRN⊢
 clear g hl hr he hn hgl
 go_enter Tryz.func3,Tryz.ntmps3
 go_upto_region 1 with(fail)
 obtain⟨w1,hw1⟩: ∃z,z=(w.alloc (.cells #[.int .i64 W, .int .i64 H, .slice a n c] 26)).alloc (.cells #[.int .i64 s, .int .i64 fx, .int .i64 fy, .int .i64 tx, .int .i64 ty, .int .i64 b] 30):=⟨_,rfl⟩
 have X1:=aA (show Ext w w1 by rw[hw1];exact((Ext.refl _).alloc _).alloc _)
 have F1:=aA (show Blk w1 w.heap.size 26 #[.int .i64 W, .int .i64 H, .slice a n c] by rw[hw1];exact(Blk.new_ rfl).over)
 have Q1:=aA (show Blk w1 (w.heap.size+1) 30 #[.int .i64 s, .int .i64 fx, .int .i64 fy, .int .i64 tx, .int .i64 ty, .int .i64 b] by rw[hw1];exact Blk.new_ (by simp))
 rw[←hw1]
 obtain⟨fb,hfb⟩: ∃z,w.heap.size=z:=⟨_,rfl⟩
 rw[hfb]at F1 Q1⊢
 clear hw1 hfb
 have q0:=Q1.out.at 0 rfl;have q1:=Q1.out.at 1 rfl;have q2:=Q1.out.at 2 rfl;have q3:=Q1.out.at 3 rfl;have q4:=Q1.out.at 4 rfl;have q5:=Q1.out.at 5 rfl;have qz:=Q1.out.lt
 have f0:=F1.out.at 0 rfl;have f1:=F1.out.at 1 rfl;have f2:=F1.out.at 2 rfl;have fz:=F1.out.lt
 go_wp2_with fail
 refine(HM.out _).mono ?_
 rintro e w2 ⟨rfl,x2⟩
 have X2:=aA (X1.out.trans x2)
 have F2:=aA (F1.out.ext x2)
 have Q2:=aA (Q1.out.ext x2)
 clear x2 F1 Q1 X1 q0 q1 q2 q3 q4 q5 qz f0 f1 f2 fz
 have q0:=Q2.out.at 0 rfl;have q1:=Q2.out.at 1 rfl;have q2:=Q2.out.at 2 rfl;have q3:=Q2.out.at 3 rfl;have q4:=Q2.out.at 4 rfl;have q5:=Q2.out.at 5 rfl;have qz:=Q2.out.lt
 have f0:=F2.out.at 0 rfl;have f1:=F2.out.at 1 rfl;have f2:=F2.out.at 2 rfl;have fz:=F2.out.lt
 go_wp2_with fail
 refine(HNW.out _ X2.out).mono ?_
 rintro e w3 ⟨p,R,rfl,hw,x3,_,_⟩
 have HFB:=aA (fun(w':World) (x:Ext w3 w')=>HFI.out p R w' (hw.ext x))
 obtain⟨pb,hpb⟩: ∃z,p.b=z:=⟨_,rfl⟩
 rw[hpb]at HFB⊢
 have X3:=aA (X2.out.trans x3)
 have F3:=aA (F2.out.ext x3)
 have Q3:=aA (Q2.out.ext x3)
 clear x3 hw hpb HFI HNW HM F2 Q2 X2 q0 q1 q2 q3 q4 q5 qz f0 f1 f2 fz
 have q0:=Q3.out.at 0 rfl;have q1:=Q3.out.at 1 rfl;have q2:=Q3.out.at 2 rfl;have q3:=Q3.out.at 3 rfl;have q4:=Q3.out.at 4 rfl;have q5:=Q3.out.at 5 rfl;have qz:=Q3.out.lt
 have f0:=F3.out.at 0 rfl;have f1:=F3.out.at 1 rfl;have f2:=F3.out.at 2 rfl;have fz:=F3.out.lt
 go_wp2_with fail
 refine(HFB.out _ (Ext.refl _)).mono ?_
 rintro e w4 ⟨x4,p1,c1,k1,e1,v1,hs1,rfl,ho1⟩
 obtain⟨va,vc,rfl⟩:=ho1.slice
 have S1:=aA hs1
 have O1:=aA ho1
 have X4:=aA (X3.out.trans x4)
 have F4:=aA (F3.out.ext x4)
 have Q4:=aA (Q3.out.ext x4)
 have HL1:=aA (HLS.out _ _ _ _ hs1)
 clear hs1 ho1 x4 F3 Q3 X3 HFB q0 q1 q2 q3 q4 q5 qz f0 f1 f2 fz HLS
 have q0:=Q4.out.at 0 rfl;have q1:=Q4.out.at 1 rfl;have q2:=Q4.out.at 2 rfl;have q3:=Q4.out.at 3 rfl;have q4:=Q4.out.at 4 rfl;have q5:=Q4.out.at 5 rfl;have qz:=Q4.out.lt
 have f0:=F4.out.at 0 rfl;have f1:=F4.out.at 1 rfl;have f2:=F4.out.at 2 rfl;have fz:=F4.out.lt
 by_cases hbad: ¬(inB W H fx fy=true∧inB W H tx ty=true)∨b<0
 ·obtain⟨ob,hob⟩: ∃z,(inB W H fx fy&&inB W H tx ty)=z:=⟨_,rfl⟩
  rw[hob]at HO
  have hcase:p1=[]∧c1=0∧k1=0∧((ob=false∧e1=10)∨(ob=true∧e1=1∧b<0)):=by
   by_cases hon:inB W H fx fy=true∧inB W H tx ty=true
   ·obtain⟨h1,h2,h3,h4⟩:=aGi S1.out hon (hbad.resolve_left (fun h=>h hon))
    exact⟨h1,h2,h3, .inr ⟨by rw[←hob,hon.1,hon.2];rfl,h4,hbad.resolve_left (fun h=>h hon)⟩⟩
   obtain⟨h1,h2,h3,h4⟩:=aGj S1.out hon
   exact⟨h1,h2,h3, .inl ⟨by rw[←hob];cases h1:inB W H fx fy<;>cases h2:inB W H tx ty<;>first|rfl|exact absurd ⟨h1,h2⟩ hon,h4⟩⟩
  clear hbad hob
  obtain⟨rfl,rfl,rfl,hcase⟩:=hcase
  clear S1 O1 HL1 HRN HRF
  rcases hcase with⟨rfl,rfl⟩|⟨rfl,rfl,hb⟩
  ·go_wp2_with fail
   refine(HO.out _).mono ?_
   rintro e w5 ⟨rfl,x5⟩
   have X45:=aA (((Ext.refl w4).alloc _).trans x5)
   have R5:=aA (show Blk w5 w4.heap.size 40 #[.slice va 0 vc, .int .u64 0, .int .i64 0] from(Blk.new_ rfl).ext x5)
   have X5:=aA (X4.out.trans X45.out)
   have F5:=aA (F4.out.ext X45.out)
   have Q5:=aA (Q4.out.ext X45.out)
   clear x5 X45 F4 Q4 X4 q0 q1 q2 q3 q4 q5 qz f0 f1 f2 fz
   have q0:=Q5.out.at 0 rfl;have q1:=Q5.out.at 1 rfl;have q2:=Q5.out.at 2 rfl;have q3:=Q5.out.at 3 rfl;have q4:=Q5.out.at 4 rfl;have q5:=Q5.out.at 5 rfl;have qz:=Q5.out.lt
   have f0:=F5.out.at 0 rfl;have f1:=F5.out.at 1 rfl;have f2:=F5.out.at 2 rfl;have fz:=F5.out.lt
   go_wp2_with fail
   refine(HO.out _).mono ?_
   rintro e w6 ⟨rfl,x6⟩
   have X6:=aA (X5.out.trans x6)
   have R6:=aA (R5.out.ext x6)
   clear x6 F5 Q5 X5 R5 q0 q1 q2 q3 q4 q5 qz f0 f1 f2 fz
   have r0:=R6.out.at 0 rfl;have r1:=R6.out.at 1 rfl;have r2:=R6.out.at 2 rfl;have rz:=R6.out.lt
   go_wp2_with (go_at_call 10;refine(kM _).mono ?_;rintro e wz ⟨rfl,xz⟩;have XZ:=aA (X6.out.trans xz);clear xz)
   go_ret
   exact⟨rfl,XZ.out⟩
  have hbd:decide (b<0)=true:=by simpa using hb
  clear hb
  go_wp2_with fail
  refine(HO.out _).mono ?_
  rintro e w5 ⟨rfl,x5⟩
  have X45:=aA (((Ext.refl w4).alloc _).trans x5)
  have R5:=aA (show Blk w5 w4.heap.size 40 #[.slice va 0 vc, .int .u64 0, .int .i64 0] from(Blk.new_ rfl).ext x5)
  have X5:=aA (X4.out.trans X45.out)
  have F5:=aA (F4.out.ext X45.out)
  have Q5:=aA (Q4.out.ext X45.out)
  clear x5 X45 F4 Q4 X4 q0 q1 q2 q3 q4 q5 qz f0 f1 f2 fz
  have q0:=Q5.out.at 0 rfl;have q1:=Q5.out.at 1 rfl;have q2:=Q5.out.at 2 rfl;have q3:=Q5.out.at 3 rfl;have q4:=Q5.out.at 4 rfl;have q5:=Q5.out.at 5 rfl;have qz:=Q5.out.lt
  have f0:=F5.out.at 0 rfl;have f1:=F5.out.at 1 rfl;have f2:=F5.out.at 2 rfl;have fz:=F5.out.lt
  go_wp2_with fail
  refine(HO.out _).mono ?_
  rintro e w6 ⟨rfl,x6⟩
  have X6:=aA (X5.out.trans x6)
  have R6:=aA (R5.out.ext x6)
  clear x6 F5 Q5 X5 R5 q0 q1 q2 q3 q4 q5 qz f0 f1 f2 fz
  have r0:=R6.out.at 0 rfl;have r1:=R6.out.at 1 rfl;have r2:=R6.out.at 2 rfl;have rz:=R6.out.lt
  go_wp2_with (go_at_call 10;refine(kM _).mono ?_;rintro e wz ⟨rfl,xz⟩;have XZ:=aA (X6.out.trans xz);clear xz)
  go_ret
  exact⟨rfl,XZ.out⟩
 have hon:inB W H fx fy=true∧inB W H tx ty=true:=Classical.byContradiction (fun h=>hbad (.inl h))
 have hb:0≤b:=by have: ¬b<0:=fun h=>hbad (.inr h);omega
 rw[hon.1,hon.2,Bool.and_true]at HO
 have HRG:=aA (HRF.out hon.1 hon.2 hb)
 have hbd:decide (b<0)=false:=by rw[decide_eq_false_iff_not];omega
 have hee:(e1==e1)=true:=by simp
 have hkk:(k1==k1)=true:=by simp
 have hcc:(c1==c1)=true:=by simp
 clear hbad hon hb HRF
 obtain⟨m1,hm1⟩: ∃z,p1.length=z:=⟨_,rfl⟩
 have HM1:=aA hm1
 rw[hm1]at O1⊢
 clear hm1
 go_wp2_with fail
 refine(HO.out _).mono ?_
 rintro e w5 ⟨rfl,x5⟩
 have X45:=aA (((Ext.refl w4).alloc (.cells #[.slice va m1 vc, .int .u64 c1, .int .i64 k1] 40)).trans x5)
 have R5:=aA (show Blk w5 w4.heap.size 40 #[.slice va m1 vc, .int .u64 c1, .int .i64 k1] from(Blk.new_ rfl).ext x5)
 have X5:=aA (X4.out.trans X45.out)
 have F5:=aA (F4.out.ext X45.out)
 have Q5:=aA (Q4.out.ext X45.out)
 have O5:=aA (O1.out.ext X45.out)
 obtain⟨rb,hrb⟩: ∃z,w4.heap.size=z:=⟨_,rfl⟩
 rw[hrb]at R5⊢
 clear x5 X45 F4 Q4 X4 O1 q0 q1 q2 q3 q4 q5 qz f0 f1 f2 fz hrb
 have q0:=Q5.out.at 0 rfl;have q1:=Q5.out.at 1 rfl;have q2:=Q5.out.at 2 rfl;have q3:=Q5.out.at 3 rfl;have q4:=Q5.out.at 4 rfl;have q5:=Q5.out.at 5 rfl;have qz:=Q5.out.lt
 have f0:=F5.out.at 0 rfl;have f1:=F5.out.at 1 rfl;have f2:=F5.out.at 2 rfl;have fz:=F5.out.lt
 go_upto_region 12 with(fail)
 refine mA (S:=(fun W=>(∀b o,b<w5.heap.size→W.cell? ⟨b,o,none⟩=w5.cell? ⟨b,o,none⟩)∧Ext w5 W)) (.take 0 (.take 1 (.take 2 (.take 4 (.take 5 (.take 6 (.take 7 (.take 8 (.take 9 (.step 3 (.step 10 (.take 11 (.take 12 (.take 13 (.step 14 (.step 15 (.take 16 .done) .shut) .shut)))) (.step 14 (.step 10 (.take 11 (.take 12 (.take 13 (.step 15 (.take 16 .done) .shut)))) .shut) .shut)) (.step 14 (.step 3 (.step 10 (.take 11 (.take 12 (.take 13 (.step 15 (.take 16 .done) .shut)))) .shut) .shut) .shut))))))))))) (by kernel_rfl) (by kernel_rfl) (by kernel_rfl) (by decide) (fun _ _ d _ _ h=>by cases d<;>exact h) (by first|with_reducible exact bG _|exact aI z_x) (fun hK0=> ?_)
 iterate 9 (refine SeqT.fr1 ?_;try simp only[zz])
 (apply SeqT.step;(·(simp only[z_0,z_1,z_2];rfl)))
 (intro K hK;go_simp;refine(HRN.out _ (X5.out.trans z_x)).mono ?_;rintro e w6 ⟨q,rfl,x6,hq,_,_,_⟩;have HR1:=aA (fun(w':World) (x:Ext w6 w')=>HRG.out q _ w' (hq.ext x));obtain⟨qb,hqb⟩: ∃z,q.b=z:=⟨_,rfl⟩;rw[hqb]at HR1⊢;(try replace DT:=aA (DT.out.ext x6));(try replace t0:=DT.out.at 0 rfl);(try replace t1:=DT.out.at 1 rfl);(try replace t2:=DT.out.at 2 rfl);(try replace tf0:=DT.out.frozen 0);(try replace tf1:=DT.out.frozen 1);(try replace tf2:=DT.out.frozen 2);(try replace tz:=DT.out.lt);clear hq hqb;go_wp2_with fail;refine hK.out _ _ (aI z_x) (fun hK0=> ?_);clear hK K;(try simp only[zz]))
 (apply SeqT.step;(·(simp only[z_0,z_1,z_2];rfl)))
 (intro K hK;go_simp;refine(HR1.out _ z_x).mono ?_;rintro e w7 ⟨x7,p2,c2,k2,e2,v2,hs2,rfl,hr2⟩;obtain⟨rfl,rfl,rfl,rfl⟩:=HSrch.one S1.out hs2;obtain⟨ua,uc,rfl⟩:=hr2.slice;rw[HM1.out]at hr2⊢;have O7:=aA (hr2.lower (base':=0) (Nat.zero_le _));(try replace DT:=aA (DT.out.ext x7));(try replace t0:=DT.out.at 0 rfl);(try replace t1:=DT.out.at 1 rfl);(try replace t2:=DT.out.at 2 rfl);(try replace tf0:=DT.out.frozen 0);(try replace tf1:=DT.out.frozen 1);(try replace tf2:=DT.out.frozen 2);(try replace tz:=DT.out.lt);clear hs2 hr2;go_wp2_with fail;refine hK.out _ _ (aI z_x) (fun hK0=> ?_);clear hK K;(try simp only[zz]))
 iterate 3 (refine SeqT.fr1 ?_;try simp only[zz])
 (apply SeqT.last;(·(simp only[z_0,z_1,z_2];rfl)))
 (intro K hK;go_simp;refine hK.out _ _ (aI z_x) (fun hK0=> ?_);clear hK K;(try simp only[zz]);(first|refine SeqT.named ?_ (by assumption)|refine SeqT.namedD ?_ (by assumption));intro wt dt hxt hzt hSt;have DT:=aA dt;have zt3:=yD DT (show w5.heap.size≤_ from(show Ext w5 _ from z_x).size);clear dt hzt;(try replace O7:=aA (O7.out.ext hxt));have t0:=DT.out.at 0 rfl;have t1:=DT.out.at 1 rfl;have t2:=DT.out.at 2 rfl;have tf0:=DT.out.frozen 0;have tf1:=DT.out.frozen 1;have tf2:=DT.out.frozen 2;have tz:=DT.out.lt)
 (apply SeqT.last;(·(simp only[z_0,z_1,z_2];rfl)))
 (intro K hK;go_simp;refine hK.out _ _ (aI z_x) (fun hK0=> ?_);clear hK K;(try simp only[zz]);refine SeqT.namedExt hK0.2 ?_;intro wq hwq xq;have XQ:=aA xq;have DQ:=aA (show Blk wq _ 43 #[.slice ua m1 uc, .int .u64 c1, .int .i64 k1] from hwq▸(((DT.out.set_ 0 (.slice ua m1 uc)).set_ 1 (.int .u64 c1)).set_ 2 (.int .i64 k1)));have OQ:=aA (show Own cellE wq 0 28 (.slice ua m1 uc) p1 from hwq▸Own.touch O7.out (aAt _ _ _ _ _) (fun q hq e=>Blk.ne_own DT.out O7.out (by decide) (by rw[←e];exact hq)));clear hwq hK0 xq t0 t1 t2 tf0 tf1 tf2 tz DT O7;have g0:=DQ.out.at 0 rfl;have g1:=DQ.out.at 1 rfl;have g2:=DQ.out.at 2 rfl;have gz:=DQ.out.lt;have RQ:=aA (R5.out.ext XQ.out);have r0:=RQ.out.at 0 rfl;have r1:=RQ.out.at 1 rfl;have r2:=RQ.out.at 2 rfl;have rz:=RQ.out.lt)
 iterate 1 (refine SeqT.fr1 ?_;try simp only[zz])
 refine SeqT.fin ?_
 rotate_left
 (apply SeqT.last;(·(simp only[z_0,z_1,z_2];rfl)))
 (intro K hK;go_simp;refine hK.out _ _ (aI z_x) (fun hK0=> ?_);clear hK K;(try simp only[zz]);(first|refine SeqT.named ?_ (by assumption)|refine SeqT.namedD ?_ (by assumption));intro wt dt hxt hzt hSt;have DT:=aA dt;have zt3:=yD DT (show w5.heap.size≤_ from(show Ext w5 _ from z_x).size);clear dt hzt;(try replace O7:=aA (O7.out.ext hxt));have t0:=DT.out.at 0 rfl;have t1:=DT.out.at 1 rfl;have t2:=DT.out.at 2 rfl;have tf0:=DT.out.frozen 0;have tf1:=DT.out.frozen 1;have tf2:=DT.out.frozen 2;have tz:=DT.out.lt)
 (apply SeqT.last;(·(simp only[z_0,z_1,z_2];rfl)))
 (intro K hK;go_simp;refine(HR1.out _ z_x).mono ?_;rintro e w7 ⟨x7,p2,c2,k2,e2,v2,hs2,rfl,hr2⟩;obtain⟨rfl,rfl,rfl,rfl⟩:=HSrch.one S1.out hs2;obtain⟨ua,uc,rfl⟩:=hr2.slice;rw[HM1.out]at hr2⊢;have O7:=aA (hr2.lower (base':=0) (Nat.zero_le _));(try replace DT:=aA (DT.out.ext x7));(try replace t0:=DT.out.at 0 rfl);(try replace t1:=DT.out.at 1 rfl);(try replace t2:=DT.out.at 2 rfl);(try replace tf0:=DT.out.frozen 0);(try replace tf1:=DT.out.frozen 1);(try replace tf2:=DT.out.frozen 2);(try replace tz:=DT.out.lt);clear hs2 hr2;go_wp2_with fail;refine hK.out _ _ (aI z_x) (fun hK0=> ?_);clear hK K;(try simp only[zz]))
 iterate 3 (refine SeqT.fr1 ?_;try simp only[zz])
 (apply SeqT.last;(·(simp only[z_0,z_1,z_2];rfl)))
 (intro K hK;go_simp;refine hK.out _ _ (aI z_x) (fun hK0=> ?_);clear hK K;(try simp only[zz]);refine SeqT.namedExt hK0.2 ?_;intro wq hwq xq;have XQ:=aA xq;have DQ:=aA (show Blk wq _ 43 #[.slice ua m1 uc, .int .u64 c1, .int .i64 k1] from hwq▸(((DT.out.set_ 0 (.slice ua m1 uc)).set_ 1 (.int .u64 c1)).set_ 2 (.int .i64 k1)));have OQ:=aA (show Own cellE wq 0 28 (.slice ua m1 uc) p1 from hwq▸Own.touch O7.out (aAt _ _ _ _ _) (fun q hq e=>Blk.ne_own DT.out O7.out (by decide) (by rw[←e];exact hq)));clear hwq hK0 xq t0 t1 t2 tf0 tf1 tf2 tz DT O7;have g0:=DQ.out.at 0 rfl;have g1:=DQ.out.at 1 rfl;have g2:=DQ.out.at 2 rfl;have gz:=DQ.out.lt;have RQ:=aA (R5.out.ext XQ.out);have r0:=RQ.out.at 0 rfl;have r1:=RQ.out.at 1 rfl;have r2:=RQ.out.at 2 rfl;have rz:=RQ.out.lt)
 iterate 1 (refine SeqT.fr1 ?_;try simp only[zz])
 refine SeqT.fin ?_
 rotate_left
 (apply SeqT.last;(·(simp only[z_0,z_1,z_2];rfl)))
 (intro K hK;go_simp;refine hK.out _ _ (aI z_x) (fun hK0=> ?_);clear hK K;(try simp only[zz]);(first|refine SeqT.named ?_ (by assumption)|refine SeqT.namedD ?_ (by assumption));intro wt dt hxt hzt hSt;have DT:=aA dt;have zt3:=yD DT (show w5.heap.size≤_ from(show Ext w5 _ from z_x).size);clear dt hzt;(try replace O7:=aA (O7.out.ext hxt));have t0:=DT.out.at 0 rfl;have t1:=DT.out.at 1 rfl;have t2:=DT.out.at 2 rfl;have tf0:=DT.out.frozen 0;have tf1:=DT.out.frozen 1;have tf2:=DT.out.frozen 2;have tz:=DT.out.lt)
 (apply SeqT.last;(·(simp only[z_0,z_1,z_2];rfl)))
 (intro K hK;go_simp;refine(HRN.out _ (X5.out.trans z_x)).mono ?_;rintro e w6 ⟨q,rfl,x6,hq,_,_,_⟩;have HR1:=aA (fun(w':World) (x:Ext w6 w')=>HRG.out q _ w' (hq.ext x));obtain⟨qb,hqb⟩: ∃z,q.b=z:=⟨_,rfl⟩;rw[hqb]at HR1⊢;(try replace DT:=aA (DT.out.ext x6));(try replace t0:=DT.out.at 0 rfl);(try replace t1:=DT.out.at 1 rfl);(try replace t2:=DT.out.at 2 rfl);(try replace tf0:=DT.out.frozen 0);(try replace tf1:=DT.out.frozen 1);(try replace tf2:=DT.out.frozen 2);(try replace tz:=DT.out.lt);clear hq hqb;go_wp2_with fail;refine hK.out _ _ (aI z_x) (fun hK0=> ?_);clear hK K;(try simp only[zz]))
 (apply SeqT.last;(·(simp only[z_0,z_1,z_2];rfl)))
 (intro K hK;go_simp;refine(HR1.out _ z_x).mono ?_;rintro e w7 ⟨x7,p2,c2,k2,e2,v2,hs2,rfl,hr2⟩;obtain⟨rfl,rfl,rfl,rfl⟩:=HSrch.one S1.out hs2;obtain⟨ua,uc,rfl⟩:=hr2.slice;rw[HM1.out]at hr2⊢;have O7:=aA (hr2.lower (base':=0) (Nat.zero_le _));(try replace DT:=aA (DT.out.ext x7));(try replace t0:=DT.out.at 0 rfl);(try replace t1:=DT.out.at 1 rfl);(try replace t2:=DT.out.at 2 rfl);(try replace tf0:=DT.out.frozen 0);(try replace tf1:=DT.out.frozen 1);(try replace tf2:=DT.out.frozen 2);(try replace tz:=DT.out.lt);clear hs2 hr2;go_wp2_with fail;refine hK.out _ _ (aI z_x) (fun hK0=> ?_);clear hK K;(try simp only[zz]))
 iterate 3 (refine SeqT.fr1 ?_;try simp only[zz])
 (apply SeqT.last;(·(simp only[z_0,z_1,z_2];rfl)))
 (intro K hK;go_simp;refine hK.out _ _ (aI z_x) (fun hK0=> ?_);clear hK K;(try simp only[zz]);refine SeqT.namedExt hK0.2 ?_;intro wq hwq xq;have XQ:=aA xq;have DQ:=aA (show Blk wq _ 43 #[.slice ua m1 uc, .int .u64 c1, .int .i64 k1] from hwq▸(((DT.out.set_ 0 (.slice ua m1 uc)).set_ 1 (.int .u64 c1)).set_ 2 (.int .i64 k1)));have OQ:=aA (show Own cellE wq 0 28 (.slice ua m1 uc) p1 from hwq▸Own.touch O7.out (aAt _ _ _ _ _) (fun q hq e=>Blk.ne_own DT.out O7.out (by decide) (by rw[←e];exact hq)));clear hwq hK0 xq t0 t1 t2 tf0 tf1 tf2 tz DT O7;have g0:=DQ.out.at 0 rfl;have g1:=DQ.out.at 1 rfl;have g2:=DQ.out.at 2 rfl;have gz:=DQ.out.lt;have RQ:=aA (R5.out.ext XQ.out);have r0:=RQ.out.at 0 rfl;have r1:=RQ.out.at 1 rfl;have r2:=RQ.out.at 2 rfl;have rz:=RQ.out.lt)
 iterate 1 (refine SeqT.fr1 ?_;try simp only[zz])
 refine SeqT.fin ?_
 all_goals
  have PQ:=aA (O5.out.ext XQ.out)
  have HXQ:=aA (X5.out.trans XQ.out)
  have HCE:=aA (fun(w':World) (x:Ext wq w')=>rF va ua p1 p1 vc uc w' (by have:=HL1.out;omega) (Reads.rowC (PQ.out.ext x).reads).2 (Reads.rowC (OQ.out.ext x).reads).2)
  simp only[decide_true]at HCE
  rw[HM1.out]at HCE
  (try go_wp2_with fail)
  refine(HCE.out _ (Ext.refl _)).mono ?_
  clear r0 r1 r2 rz g0 g1 g2 gz HCE
  rintro e w9 ⟨rfl,x9⟩
  have R9:=aA (RQ.out.ext x9)
  have D9:=aA (DQ.out.ext x9)
  have X9:=aA (HXQ.out.trans x9)
  clear x9
  have r0:=R9.out.at 0 rfl
  have r1:=R9.out.at 1 rfl
  have r2:=R9.out.at 2 rfl
  have rz:=R9.out.lt
  have g0:=D9.out.at 0 rfl
  have g1:=D9.out.at 1 rfl
  have g2:=D9.out.at 2 rfl
  have gz:=D9.out.lt
  go_wp2_with (go_at_call 10;refine(kM _).mono ?_;rintro e wz ⟨rfl,xz⟩;have XZ:=aA (X9.out.trans xz);clear xz)
  go_ret
  exact⟨rfl,XZ.out⟩
theorem xF {w:World} (W H:Int) (a:Option Addr) (l:List Int) (c:Nat) (s fx fy tx ty b:Int) (hr:Row16 w a l) (hu:cV l):
  Calls Tryz.prog 3 #[.agg #[.int .i64 W, .int .i64 H, .slice a l.length c], .agg #[.int .i64 s, .int .i64 fx, .int .i64 fy, .int .i64 tx, .int .i64 ty, .int .i64 b]] w fun e w'=>e= .returned (.bool true)∧Ext w w':=by
 cases hm:(decide (l.length≤150)&&decide (jQ W H l.length s=0))
 ·exact aMv W H a l.length c s fx fy tx ty b hm
 rw[Bool.and_eq_true,decide_eq_true_eq,decide_eq_true_eq]at hm
 exact aM8 c fx fy tx ty b (aJo hu hm.2) hm.1 hr hm.2
end Go.Proofs.YtaellcgglldjaaaGreat

namespace Go.Proofs.YtaellcgglldjaaaGreat
open Go.RowKit Go.ChangeShapes Go.WideShapes Go.ChangeAt
section
variable {H:Type} {enc:TypeId×Value→H} {w:World} {r:Reach} {base b0:Nat} {spare:Nat→Bool} {held:Bool}
theorem aM3 {n:Int} (h:(Lit.int .i64 n).wf=true):InI n:=by
 have hmin:IntKind.i64.min= -9223372036854775808:=rfl
 have hmax:IntKind.i64.max=9223372036854775807:=rfl
 simp only[Lit.wf,Bool.and_eq_true,decide_eq_true_eq]at h
 unfold InI;omega
theorem qZ {fuel:Nat} {v:Value} {x:DataW H×List MemPlace} (h:DataW.trod enc Tryz.prog w base spare held fuel 3 [v]=some x): ∃n,v= .int .i64 n∧InI n:=by
 obtain⟨n,hc,_,hw⟩:=DataW.trod_int Tryz.underlying3 h
 simp at hc
 exact⟨n,hc,aM3 hw⟩
theorem sQ {t:TypeId} {f0 f1:Field} {fuel:Nat} {c0 c1:Value} {x:DataW H×List MemPlace} (ht:Tryz.prog.underlying t=some (.struct #[f0,f1])) (e0:f0.type=3∧f0.offset=0) (e1:f1.type=3∧f1.offset=1) (h:DataW.trod enc Tryz.prog w base spare held fuel t [c0,c1]=some x):
  ∃a b,c0= .int .i64 a∧c1= .int .i64 b∧InI a∧InI b:=by
 obtain⟨xs,n,_,_,_,hlen,hf⟩:=DataW.trod_struct ht h
 have hc:Tryz.prog.cellsOf 3=1:=by kernel_rfl
 match xs,hlen with
 |[y0,y1],_=>
  have h0:=hf 0 f0 rfl
  have h1:=hf 1 f1 rfl
  rw[e0.1,e0.2,hc]at h0
  rw[e1.1,e1.2,hc]at h1
  obtain⟨a,rfl,ha⟩:=qZ h0
  obtain⟨b,rfl,hb⟩:=qZ h1
  exact⟨a,b,rfl,rfl,ha,hb⟩
end
theorem own:ownKnob Tryz.prog.godebug=none:=by kernel_rfl
theorem aD2:laidOutB Tryz.prog=true:=by kernel_rfl
section
variable {H:Type} {enc:TypeId×Value→H} {w:World} {r:Reach} {base b0:Nat} {spare:Nat→Bool} {held:Bool}
def aM1 (w:World) (W Hh:Int) (a:Option Addr) (l:List Int):Prop:=InI W∧InI Hh∧(l.length:Int)≤9223372036854775807∧Row16 w a l∧cV l
set_option maxRecDepth 100000 in
theorem aBa:Tryz.prog.cellsOf 26=3:=by kernel_rfl
set_option maxRecDepth 100000 in
theorem aFt:Tryz.prog.cellsOf 84=1:=by kernel_rfl
theorem aK1 {a:Addr} {len:Nat} {zs:List Int} (hlen:len≤zs.length) (hc: ∀i,i<zs.length→w.cell? (a.add i)=some (.int .u16 (zs.getD i 0))) (hw: ∀n∈zs,(Lit.int .u16 n).wf=true):(zs.take len).length=len∧Row16 w (some a) (zs.take len)∧cV (zs.take len):=by
 have hl:(zs.take len).length=len:=by rw[List.length_take];omega
 refine⟨hl,fun h0=> ?_,fun x hx=> ?_⟩
 ·obtain⟨b,off,spot⟩:=a
  have z0:=hc 0 (by omega)
  have hspot:spot=none:=by simpa [Addr.add] using World.cell?_spot z0
  subst hspot
  have z0':w.cell? ⟨b,off,none⟩=some (.int .u16 (zs.getD 0 0)):=by simpa [Addr.add] using z0
  refine⟨b,off,rfl,World.block_lt_of_cell? w _ z0',fun k hk=> ?_⟩
  have:=hc k (by omega)
  rw[Addr.add_lit]at this
  rw[this]
  have hk':k<zs.length:=by omega
  simp[List.getD_eq_getElem?_getD,hk']
 have hmem:x∈zs:=List.mem_of_mem_take hx
 have h:=hw x hmem
 have hmin:IntKind.u16.min=0:=rfl
 have hmax:IntKind.u16.max=65535:=rfl
 simp only[Lit.wf,Bool.and_eq_true,decide_eq_true_eq]at h
 omega
set_option maxRecDepth 100000 in
theorem aEi {v:Value} {d:DataW H} {p:List MemPlace} (hv:Value.okWide Tryz.prog w r b0 26 v) (h:DataW.Trod enc Tryz.prog w base spare held 26 v d p):
  ∃W Hh a l c,v= .agg #[.int .i64 W, .int .i64 Hh, .slice a (List.length l) c]∧aM1 w W Hh a l:=by
 obtain⟨cs,rfl,hsz⟩:=okWide_struct Tryz.underlying26 hv
 obtain⟨l⟩:=cs
 rw[aBa]at hsz
 match l,hsz with
 |[c0,c1,c2],_=>
  obtain⟨fuel,hf⟩:=h
  obtain⟨xs,n,_,_,_,hlen,hf⟩:=DataW.trod_struct Tryz.underlying26 hf
  match xs,hlen with
  |[y0,y1],_=>
   have h0:=hf 0 _ rfl
   have h1:=hf 1 _ rfl
   obtain⟨a,b,rfl,rfl,ha,hb⟩:=sQ (c0:=c0) (c1:=c1) Tryz.underlying23 ⟨rfl,rfl⟩ ⟨rfl,rfl⟩ h0
   have h1':DataW.trod enc Tryz.prog w base spare held n 24 [c2]=some y1:=h1
   rcases open_ints Tryz.underlying24 Tryz.underlying84 aFt h1' with⟨hc,_⟩|⟨ad,len,cap,zs,hc,_,hl,hm,hz,_,hcell,hwz⟩
   ·simp at hc
    subst hc
    exact⟨a,b,none,[],0,rfl,ha,hb,by simp,fun h=>by simp at h,fun x hx=>by simp at hx⟩
   simp at hc
   subst hc
   have hle:len≤zs.length:=by rw[hz];split<;>omega
   obtain⟨q1,q2,q3⟩:=aK1 hle hcell hwz
   refine⟨a,b,some ad,zs.take len,cap,by rw[q1],ha,hb,?_,q2,q3⟩
   rw[q1];unfold maxLen at hm;omega
end
section
variable {H:Type} {enc:TypeId×Value→H} {P:Program} {w:World} {base:Nat} {spare:Nat→Bool} {held:Bool}
end
section
variable {H:Type} {enc:TypeId×Value→H} {w:World} {r:Reach} {base b0:Nat} {spare:Nat→Bool} {held:Bool}
end
section
variable {H:Type} {enc:TypeId×Value→H} {w:World} {r:Reach} {base b0:Nat} {spare:Nat→Bool} {held:Bool}
end
end Go.Proofs.YtaellcgglldjaaaGreat

namespace Go.Proofs.YtaellcgglldjaaaGreat
open Go.RowKit Go.ChangeShapes Go.WideShapes Go.ChangeAt
section
variable {H:Type} {enc:TypeId×Value→H} {w:World} {r:Reach} {base b0:Nat} {spare:Nat→Bool} {held:Bool}
set_option maxRecDepth 100000 in
theorem aB9:Tryz.prog.cellsOf 30=6:=by kernel_rfl
set_option maxRecDepth 100000 in
theorem aEh {v:Value} {d:DataW H} {p:List MemPlace} (hv:Value.okWide Tryz.prog w r b0 30 v) (h:DataW.Trod enc Tryz.prog w base spare held 30 v d p): ∃s x y z u b,v= .agg #[.int .i64 s, .int .i64 x, .int .i64 y, .int .i64 z, .int .i64 u, .int .i64 b]∧InI s∧InI x∧InI y∧InI z∧InI u∧InI b:=by
 obtain⟨cs,rfl,hsz⟩:=okWide_struct Tryz.underlying30 hv
 obtain⟨l⟩:=cs
 rw[aB9]at hsz
 match l,hsz with
 |[c0,c1,c2,c3,c4,c5],_=>
  obtain⟨fuel,hf⟩:=h
  obtain⟨xs,n,_,_,_,hlen,hf⟩:=DataW.trod_struct Tryz.underlying30 hf
  match xs,hlen with
  |[y0,y1,y2,y3],_=>
   obtain⟨s,rfl,hs⟩:=qZ (v:=c0) (hf 0 _ rfl)
   obtain⟨a,b,rfl,rfl,ha,hb⟩:=sQ (c0:=c1) (c1:=c2) Tryz.underlying28 ⟨rfl,rfl⟩ ⟨rfl,rfl⟩ (hf 1 _ rfl)
   obtain⟨c,e,rfl,rfl,hc,he⟩:=sQ (c0:=c3) (c1:=c4) Tryz.underlying28 ⟨rfl,rfl⟩ ⟨rfl,rfl⟩ (hf 2 _ rfl)
   obtain⟨g,rfl,hg⟩:=qZ (v:=c5) (hf 3 _ rfl)
   exact⟨s,a,b,c,e,g,rfl,hs,ha,hb,hc,he,hg⟩
end
end Go.Proofs.YtaellcgglldjaaaGreat

