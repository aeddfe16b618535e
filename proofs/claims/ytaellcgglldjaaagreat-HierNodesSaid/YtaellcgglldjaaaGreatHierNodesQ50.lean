/- Part of a proof: LawHN ArgF ArgH. -/
import Derived.Test.YtaellcgglldjaaaGreatHierNodesQ43
import Derived.Test.YtaellcgglldjaaaGreatHierNodesQ49
import Derived.Test.YtaellcgglldjaaaGreatHierNodesQ47
import Derived.Test.YtaellcgglldjaaaGreatHierNodesQ02
import Derived.ProofKit
import Derived.OpenShut
import Derived.ShutString
import Derived.ChangeOld
import Derived.Test.YtaellcgglldjaaaGreatHierNodesQ03
import Derived.Deep.Slices
import Derived.Test.YtaellcgglldjaaaGreatHierNodesQ01
set_option linter.all false
set_option linter.unusedVariables false
set_option linter.unusedSimpArgs false
namespace Go.Proofs.YtaellcgglldjaaaGreat
open Go.RowKit
set_option maxRecDepth 100000 in
theorem aMb {w:World} (W H:Int) (a:Option Addr) (n c:Nat) (s fx fy tx ty b ax ay:Int) (hm:(decide (n≤150)&&decide (iC W H n s=0))=false):
  Calls Tryz.prog 5 #[.agg #[.int .i64 W, .int .i64 H, .slice a n c], .agg #[.int .i64 s, .int .i64 fx, .int .i64 fy, .int .i64 tx, .int .i64 ty, .int .i64 b], .agg #[.int .i64 ax, .int .i64 ay]] w fun e w'=>e= .returned (.bool true)∧Ext w w':=by
 have HM:=aA (fun(w':World)=>pF W H a n c s fx fy tx ty b w')
 rw[hm]at HM
 clear hm
 go_enter Tryz.func5,Tryz.ntmps5
 go_upto_region 1 with(fail)
 obtain⟨w1,hw1⟩: ∃z,z=((w.alloc (.cells #[.int .i64 W, .int .i64 H, .slice a n c] 26)).alloc (.cells #[.int .i64 s, .int .i64 fx, .int .i64 fy, .int .i64 tx, .int .i64 ty, .int .i64 b] 30)).alloc (.cells #[.int .i64 ax, .int .i64 ay] 28):=⟨_,rfl⟩
 have X1:=aA (show Ext w w1 by rw[hw1];exact(((Ext.refl _).alloc _).alloc _).alloc _)
 have F1:=aA (show Blk w1 w.heap.size 26 #[.int .i64 W, .int .i64 H, .slice a n c] by rw[hw1];exact(Blk.new_ rfl).over.over)
 have Q1:=aA (show Blk w1 (w.heap.size+1) 30 #[.int .i64 s, .int .i64 fx, .int .i64 fy, .int .i64 tx, .int .i64 ty, .int .i64 b] by rw[hw1];exact(Blk.new_ (by simp)).over)
 have A1:=aA (show Blk w1 (w.heap.size+1+1) 28 #[.int .i64 ax, .int .i64 ay] by rw[hw1];exact Blk.new_ (by simp))
 rw[←hw1]
 obtain⟨fb,hfb⟩: ∃z,w.heap.size=z:=⟨_,rfl⟩
 rw[hfb]at F1 Q1 A1⊢
 clear hw1 hfb
 have q0:=Q1.out.at 0 rfl;have q1:=Q1.out.at 1 rfl;have q2:=Q1.out.at 2 rfl;have q3:=Q1.out.at 3 rfl;have q4:=Q1.out.at 4 rfl;have q5:=Q1.out.at 5 rfl;have qz:=Q1.out.lt
 have f0:=F1.out.at 0 rfl;have f1:=F1.out.at 1 rfl;have f2:=F1.out.at 2 rfl;have fz:=F1.out.lt
 go_wp2_with fail
 refine(HM.out _).mono ?_
 rintro e w2 ⟨rfl,x2⟩
 have X2:=aA (X1.out.trans x2)
 clear x2
 go_wp2_with (go_at_call 10;refine(gP _).mono ?_;rintro e wz ⟨rfl,xz⟩;have XZ:=aA (X2.out.trans xz);clear xz)
 go_ret
 exact⟨rfl,XZ.out⟩
theorem aI2 {α:Type} {l:List α} {k:Nat} {y z:α} (h:l[k]? =some y):z∈l.take (k+1)↔z∈l.take k∨y=z:=by
 rw[List.take_add_one,h]
 simp[eq_comm]
set_option maxRecDepth 100000 in
set_option maxHeartbeats 2000000 in
theorem aLo {w:World} {W H:Int} {a:Option Addr} {l:List Int} (c:Nat) {s:Int} (fx fy tx ty b ax ay:Int) (g:Good W H s l) (hl:l.length≤150) (hr:Row16 w a l) (he:iC W H l.length s=0) (hon: ¬(inB W H fx fy=true∧inB W H tx ty=true)):
  Calls Tryz.prog 5 #[.agg #[.int .i64 W, .int .i64 H, .slice a l.length c], .agg #[.int .i64 s, .int .i64 fx, .int .i64 fy, .int .i64 tx, .int .i64 ty, .int .i64 b], .agg #[.int .i64 ax, .int .i64 ay]] w fun e w'=>e= .returned (.bool true)∧Ext w w':=by
 have HM:=aA (fun(w':World)=>pF W H a l.length c s fx fy tx ty b w')
 rw[he,show decide (l.length≤150)=true by simpa using hl]at HM
 simp only[decide_true,Bool.true_and]at HM
 have hgl:=vU g hl
 have HNW:=aA (fun(w':World) (x:Ext w w')=>pM (w:=w') c g (hr.ext x) (by omega))
 have HNO:=aA (fun(p:Spot) (R:Nat→Prop) (w':World) (h:WorldAt w' p R W H s l)=>qI h hgl (fx,fy) (tx,ty))
 have HLE:=aA (fun(p:Spot) (R:Nat→Prop) (w':World) (h:WorldAt w' p R W H s l)=>sF h g hl hgl (fx,fy) (tx,ty) (ax,ay))
 have HO:=aA (fun(w':World)=>xK W H a l.length c s fx fy tx ty b w' (checkE_ok.1 g.ok).1)
 rw[show(inB W H fx fy&&inB W H tx ty)=false by cases h1:inB W H fx fy<;>cases h2:inB W H tx ty<;>first|rfl|exact absurd ⟨h1,h2⟩ hon]at HO
 have HON:=aA hon
 simp only at HNO HLE
 generalize l.length=n at *
 clear g hl hr he hgl hon
 go_enter Tryz.func5,Tryz.ntmps5
 go_upto_region 1 with(fail)
 obtain⟨w1,hw1⟩: ∃z,z=((w.alloc (.cells #[.int .i64 W, .int .i64 H, .slice a n c] 26)).alloc (.cells #[.int .i64 s, .int .i64 fx, .int .i64 fy, .int .i64 tx, .int .i64 ty, .int .i64 b] 30)).alloc (.cells #[.int .i64 ax, .int .i64 ay] 28):=⟨_,rfl⟩
 have X1:=aA (show Ext w w1 by rw[hw1];exact(((Ext.refl _).alloc _).alloc _).alloc _)
 have F1:=aA (show Blk w1 w.heap.size 26 #[.int .i64 W, .int .i64 H, .slice a n c] by rw[hw1];exact(Blk.new_ rfl).over.over)
 have Q1:=aA (show Blk w1 (w.heap.size+1) 30 #[.int .i64 s, .int .i64 fx, .int .i64 fy, .int .i64 tx, .int .i64 ty, .int .i64 b] by rw[hw1];exact(Blk.new_ (by simp)).over)
 have A1:=aA (show Blk w1 (w.heap.size+1+1) 28 #[.int .i64 ax, .int .i64 ay] by rw[hw1];exact Blk.new_ (by simp))
 rw[←hw1]
 obtain⟨fb,hfb⟩: ∃z,w.heap.size=z:=⟨_,rfl⟩
 rw[hfb]at F1 Q1 A1⊢
 clear hw1 hfb
 have q0:=Q1.out.at 0 rfl;have q1:=Q1.out.at 1 rfl;have q2:=Q1.out.at 2 rfl;have q3:=Q1.out.at 3 rfl;have q4:=Q1.out.at 4 rfl;have q5:=Q1.out.at 5 rfl;have qz:=Q1.out.lt
 have f0:=F1.out.at 0 rfl;have f1:=F1.out.at 1 rfl;have f2:=F1.out.at 2 rfl;have fz:=F1.out.lt
 go_wp2_with fail
 refine(HM.out _).mono ?_
 rintro e w2 ⟨rfl,x2⟩
 have X2:=aA (X1.out.trans x2)
 have F2:=aA (F1.out.ext x2)
 have Q2:=aA (Q1.out.ext x2)
 have A2:=aA (A1.out.ext x2)
 clear x2 F1 Q1 A1 X1 q0 q1 q2 q3 q4 q5 qz f0 f1 f2 fz
 have q0:=Q2.out.at 0 rfl;have q1:=Q2.out.at 1 rfl;have q2:=Q2.out.at 2 rfl;have q3:=Q2.out.at 3 rfl;have q4:=Q2.out.at 4 rfl;have q5:=Q2.out.at 5 rfl;have qz:=Q2.out.lt
 have f0:=F2.out.at 0 rfl;have f1:=F2.out.at 1 rfl;have f2:=F2.out.at 2 rfl;have fz:=F2.out.lt
 go_wp2_with fail
 refine(HNW.out _ X2.out).mono ?_
 rintro e w3 ⟨p,R,rfl,hw,x3,_,_⟩
 have HN1:=aA (fun(w':World) (x:Ext w3 w')=>HNO.out p R w' (hw.ext x))
 have HL1:=aA (fun(w':World) (x:Ext w3 w')=>HLE.out p R w' (hw.ext x))
 obtain⟨pb,hpb⟩: ∃z,p.b=z:=⟨_,rfl⟩
 rw[hpb]at HN1 HL1⊢
 clear hw hpb HNO HLE
 have X3:=aA (X2.out.trans x3)
 have F3:=aA (F2.out.ext x3)
 have Q3:=aA (Q2.out.ext x3)
 have A3:=aA (A2.out.ext x3)
 clear q0 q1 q2 q3 q4 q5 qz f0 f1 f2 fz F2 Q2 A2 X2
 clear x3
 have q0:=Q3.out.at 0 rfl;have q1:=Q3.out.at 1 rfl;have q2:=Q3.out.at 2 rfl;have q3:=Q3.out.at 3 rfl;have q4:=Q3.out.at 4 rfl;have q5:=Q3.out.at 5 rfl;have qz:=Q3.out.lt
 have f0:=F3.out.at 0 rfl;have f1:=F3.out.at 1 rfl;have f2:=F3.out.at 2 rfl;have fz:=F3.out.lt
 go_wp2_with fail
 refine(HN1.out _ (Ext.refl _)).mono ?_
 rintro e w4 (⟨_,rfl,x4⟩|⟨h1,_⟩)
 case inr=>exact absurd h1 HON.out
 have X34:=aA x4
 have X4:=aA (X3.out.trans x4)
 have F4:=aA (F3.out.ext x4)
 have Q4:=aA (Q3.out.ext x4)
 have A4:=aA (A3.out.ext x4)
 clear q0 q1 q2 q3 q4 q5 qz f0 f1 f2 fz F3 Q3 A3 X3
 clear x4
 have q0:=Q4.out.at 0 rfl;have q1:=Q4.out.at 1 rfl;have q2:=Q4.out.at 2 rfl;have q3:=Q4.out.at 3 rfl;have q4:=Q4.out.at 4 rfl;have q5:=Q4.out.at 5 rfl;have qz:=Q4.out.lt
 have y0:=A4.out.at 0 rfl;have y1:=A4.out.at 1 rfl;have yz:=A4.out.lt
 go_wp2_with fail
 refine(HL1.out _ X34.out).mono ?_
 rintro e w5 ⟨x5,⟨_,rfl⟩|⟨h1,_⟩|⟨h1,_⟩⟩
 case inr.inl=>exact absurd ⟨h1.1,h1.2.1⟩ HON.out
 case inr.inr=>exact absurd ⟨h1.1,h1.2.1⟩ HON.out
 have X5:=aA (X4.out.trans x5)
 have F5:=aA (F4.out.ext x5)
 have Q5:=aA (Q4.out.ext x5)
 have A5:=aA (A4.out.ext x5)
 clear q0 q1 q2 q3 q4 q5 qz y0 y1 yz F4 Q4 A4 X4
 clear x5 X34
 have q0:=Q5.out.at 0 rfl;have q1:=Q5.out.at 1 rfl;have q2:=Q5.out.at 2 rfl;have q3:=Q5.out.at 3 rfl;have q4:=Q5.out.at 4 rfl;have q5:=Q5.out.at 5 rfl;have qz:=Q5.out.lt
 have f0:=F5.out.at 0 rfl;have f1:=F5.out.at 1 rfl;have f2:=F5.out.at 2 rfl;have fz:=F5.out.lt
 go_wp2_with fail
 refine(HO.out _).mono ?_
 rintro e w6 ⟨rfl,x6⟩
 have X6:=aA (X5.out.trans x6)
 clear x6 q0 q1 q2 q3 q4 q5 qz f0 f1 f2 fz
 go_wp2_with (go_at_call 10;refine(gP _).mono ?_;rintro e wz ⟨rfl,xz⟩;have XZ:=aA (X6.out.trans xz);clear xz)
 go_ret
 exact⟨rfl,XZ.out⟩
set_option maxRecDepth 100000 in
set_option maxHeartbeats 4000000 in
theorem aM1 {w:World} {W H:Int} {a:Option Addr} {l:List Int} (c:Nat) {s:Int} (fx fy tx ty b ax ay:Int) (g:Good W H s l) (hl:l.length≤150) (hr:Row16 w a l) (he:iC W H l.length s=0) (hon:inB W H fx fy=true∧inB W H tx ty=true):
  Calls Tryz.prog 5 #[.agg #[.int .i64 W, .int .i64 H, .slice a l.length c], .agg #[.int .i64 s, .int .i64 fx, .int .i64 fy, .int .i64 tx, .int .i64 ty, .int .i64 b], .agg #[.int .i64 ax, .int .i64 ay]] w fun e w'=>e= .returned (.bool true)∧Ext w w':=by
 have HM:=aA (fun(w':World)=>pF W H a l.length c s fx fy tx ty b w')
 rw[he,show decide (l.length≤150)=true by simpa using hl]at HM
 simp only[decide_true,Bool.true_and]at HM
 have hgl:=vU g hl
 have HNW:=aA (fun(w':World) (x:Ext w w')=>pM (w:=w') c g (hr.ext x) (by omega))
 have HNO:=aA (fun(p:Spot) (R:Nat→Prop) (w':World) (h:WorldAt w' p R W H s l)=>qI h hgl (fx,fy) (tx,ty))
 have HLE:=aA (fun(p:Spot) (R:Nat→Prop) (w':World) (h:WorldAt w' p R W H s l)=>sF h g hl hgl (fx,fy) (tx,ty) (ax,ay))
 have HO:=aA (fun(w':World)=>xK W H a l.length c s fx fy tx ty b w' (checkE_ok.1 g.ok).1)
 rw[hon.1,hon.2,Bool.and_true]at HO
 have HI:=aA (fun(w':World)=>pB W H ax ay w' (checkE_ok.1 g.ok).1)
 have HRN:=aA (fun(w':World) (x:Ext w w')=>aDr (w:=w') c g (hr.ext x) (by omega))
 have HRO:=aA (fun(q:lG) (R:Nat→Prop) (w':World) (h:aDn w' q R W H s l)=>zQ h (fx,fy) (tx,ty) (by omega))
 have HNL:=aA (sU g (f:=(fx,fy)) (t:=(tx,ty)))
 have HLL:=aA (vG g (f:=(fx,fy)) (t:=(tx,ty)) (a:=(ax,ay)))
 have HRL:=aA (fun(hin:inB W H ax ay=true) (q:lG) (R:Nat→Prop) (w':World) (h:aDn w' q R W H s l) (na:Option Addr) (nc:Nat) (hn:RowC w' na (aX W H (aD W H s l) (fx,fy) (tx,ty)))=>aBh h (fx,fy) (tx,ty) (ax,ay) hin (by omega) nc hn (by have:=HNL.out;omega))
 have HLB:=aA (show(bR W H s l (aD W H s l) (fx,fy) (tx,ty) (ax,ay)).length≤100000 by have:=HLL.out;omega)
 have HON:=aA hon
 have HL150:=aA (show(aX W H (aD W H s l) (fx,fy) (tx,ty)).length≤150 by have:=HNL.out;omega)
 simp only at HNO HLE HRO HRL
 obtain⟨n,hn⟩: ∃z,l.length=z:=⟨_,rfl⟩
 rw[hn]at HM HNW HO HRN⊢
 clear g hl hr he hgl hon hn HNL HLL
 go_enter Tryz.func5,Tryz.ntmps5
 go_upto_region 1 with(fail)
 obtain⟨w1,hw1⟩: ∃z,z=((w.alloc (.cells #[.int .i64 W, .int .i64 H, .slice a n c] 26)).alloc (.cells #[.int .i64 s, .int .i64 fx, .int .i64 fy, .int .i64 tx, .int .i64 ty, .int .i64 b] 30)).alloc (.cells #[.int .i64 ax, .int .i64 ay] 28):=⟨_,rfl⟩
 have X1:=aA (show Ext w w1 by rw[hw1];exact(((Ext.refl _).alloc _).alloc _).alloc _)
 have F1:=aA (show Blk w1 w.heap.size 26 #[.int .i64 W, .int .i64 H, .slice a n c] by rw[hw1];exact(Blk.new_ rfl).over.over)
 have Q1:=aA (show Blk w1 (w.heap.size+1) 30 #[.int .i64 s, .int .i64 fx, .int .i64 fy, .int .i64 tx, .int .i64 ty, .int .i64 b] by rw[hw1];exact(Blk.new_ (by simp)).over)
 have A1:=aA (show Blk w1 (w.heap.size+1+1) 28 #[.int .i64 ax, .int .i64 ay] by rw[hw1];exact Blk.new_ (by simp))
 rw[←hw1]
 obtain⟨fb,hfb⟩: ∃z,w.heap.size=z:=⟨_,rfl⟩
 rw[hfb]at F1 Q1 A1⊢
 clear hw1 hfb
 have q0:=Q1.out.at 0 rfl;have q1:=Q1.out.at 1 rfl;have q2:=Q1.out.at 2 rfl;have q3:=Q1.out.at 3 rfl;have q4:=Q1.out.at 4 rfl;have q5:=Q1.out.at 5 rfl;have qz:=Q1.out.lt
 have f0:=F1.out.at 0 rfl;have f1:=F1.out.at 1 rfl;have f2:=F1.out.at 2 rfl;have fz:=F1.out.lt
 go_wp2_with fail
 refine(HM.out _).mono ?_
 rintro e w2 ⟨rfl,x2⟩
 have X2:=aA (X1.out.trans x2)
 have F2:=aA (F1.out.ext x2)
 have Q2:=aA (Q1.out.ext x2)
 have A2:=aA (A1.out.ext x2)
 clear x2 F1 Q1 A1 X1 q0 q1 q2 q3 q4 q5 qz f0 f1 f2 fz
 have q0:=Q2.out.at 0 rfl;have q1:=Q2.out.at 1 rfl;have q2:=Q2.out.at 2 rfl;have q3:=Q2.out.at 3 rfl;have q4:=Q2.out.at 4 rfl;have q5:=Q2.out.at 5 rfl;have qz:=Q2.out.lt
 have f0:=F2.out.at 0 rfl;have f1:=F2.out.at 1 rfl;have f2:=F2.out.at 2 rfl;have fz:=F2.out.lt
 go_wp2_with fail
 refine(HNW.out _ X2.out).mono ?_
 rintro e w3 ⟨p,R,rfl,hw,x3,_,_⟩
 have HN1:=aA (fun(w':World) (x:Ext w3 w')=>HNO.out p R w' (hw.ext x))
 have HL1:=aA (fun(w':World) (x:Ext w3 w')=>HLE.out p R w' (hw.ext x))
 obtain⟨pb,hpb⟩: ∃z,p.b=z:=⟨_,rfl⟩
 rw[hpb]at HN1 HL1⊢
 clear hw hpb HNO HLE
 have X3:=aA (X2.out.trans x3)
 have F3:=aA (F2.out.ext x3)
 have Q3:=aA (Q2.out.ext x3)
 have A3:=aA (A2.out.ext x3)
 clear q0 q1 q2 q3 q4 q5 qz f0 f1 f2 fz F2 Q2 A2 X2
 clear x3
 have q0:=Q3.out.at 0 rfl;have q1:=Q3.out.at 1 rfl;have q2:=Q3.out.at 2 rfl;have q3:=Q3.out.at 3 rfl;have q4:=Q3.out.at 4 rfl;have q5:=Q3.out.at 5 rfl;have qz:=Q3.out.lt
 have f0:=F3.out.at 0 rfl;have f1:=F3.out.at 1 rfl;have f2:=F3.out.at 2 rfl;have fz:=F3.out.lt
 go_wp2_with fail
 refine(HN1.out _ (Ext.refl _)).mono ?_
 rintro e w4 (⟨h1,_⟩|⟨_,v4,rfl,x4,o4⟩)
 case inl=>exact absurd HON.out h1
 obtain⟨na,nc,rfl⟩:=o4.slice
 have NO4:=aA o4
 have X34:=aA x4
 have X4:=aA (X3.out.trans x4)
 have F4:=aA (F3.out.ext x4)
 have Q4:=aA (Q3.out.ext x4)
 have A4:=aA (A3.out.ext x4)
 clear q0 q1 q2 q3 q4 q5 qz f0 f1 f2 fz F3 Q3 A3 X3
 clear x4 o4
 have q0:=Q4.out.at 0 rfl;have q1:=Q4.out.at 1 rfl;have q2:=Q4.out.at 2 rfl;have q3:=Q4.out.at 3 rfl;have q4:=Q4.out.at 4 rfl;have q5:=Q4.out.at 5 rfl;have qz:=Q4.out.lt
 have y0:=A4.out.at 0 rfl;have y1:=A4.out.at 1 rfl;have yz:=A4.out.lt
 go_wp2_with fail
 refine(HL1.out _ X34.out).mono ?_
 rintro e w5 hle
 obtain⟨la,lc,L,er,rfl,x5,lo5,hcase⟩:=aG3 hle HON.out
 have LO5:=aA lo5
 have HC:=aA hcase
 have NO5:=aA (NO4.out.ext x5)
 have X5:=aA (X4.out.trans x5)
 have F5:=aA (F4.out.ext x5)
 have Q5:=aA (Q4.out.ext x5)
 have A5:=aA (A4.out.ext x5)
 clear q0 q1 q2 q3 q4 q5 qz y0 y1 yz F4 Q4 A4 X4
 clear x5 X34 hle hcase lo5 NO4 HN1 HL1
 have q0:=Q5.out.at 0 rfl;have q1:=Q5.out.at 1 rfl;have q2:=Q5.out.at 2 rfl;have q3:=Q5.out.at 3 rfl;have q4:=Q5.out.at 4 rfl;have q5:=Q5.out.at 5 rfl;have qz:=Q5.out.lt
 have f0:=F5.out.at 0 rfl;have f1:=F5.out.at 1 rfl;have f2:=F5.out.at 2 rfl;have fz:=F5.out.lt
 go_wp2_with fail
 refine(HO.out _).mono ?_
 rintro e w6 ⟨rfl,x6⟩
 have NO6:=aA (NO5.out.ext x6)
 have LO6:=aA (LO5.out.ext x6)
 have X6:=aA (X5.out.trans x6)
 have F6:=aA (F5.out.ext x6)
 have Q6:=aA (Q5.out.ext x6)
 have A6:=aA (A5.out.ext x6)
 clear q0 q1 q2 q3 q4 q5 qz f0 f1 f2 fz F5 Q5 A5 X5
 clear x6 NO5 LO5
 have q0:=Q6.out.at 0 rfl;have q1:=Q6.out.at 1 rfl;have q2:=Q6.out.at 2 rfl;have q3:=Q6.out.at 3 rfl;have q4:=Q6.out.at 4 rfl;have q5:=Q6.out.at 5 rfl;have qz:=Q6.out.lt
 have f0:=F6.out.at 0 rfl;have f1:=F6.out.at 1 rfl;have f2:=F6.out.at 2 rfl;have fz:=F6.out.lt
 go_wp2_with fail
 refine(HRN.out _ X6.out).mono ?_
 rintro e w7 ⟨q,rfl,x7,hq,_,_,_⟩
 have HR1:=aA (fun(w':World) (x:Ext w7 w')=>HRO.out q _ w' (hq.ext x))
 have HR2:=aA (fun(hin:inB W H ax ay=true) (w':World) (x:Ext w7 w')=>HRL.out hin q _ w' (hq.ext x))
 obtain⟨qb,hqb⟩: ∃z,q.b=z:=⟨_,rfl⟩
 rw[hqb]at HR1 HR2⊢
 have NO7:=aA (NO6.out.ext x7)
 have LO7:=aA (LO6.out.ext x7)
 clear hq hqb HRO HRL NO6 LO6
 have X7:=aA (X6.out.trans x7)
 have F7:=aA (F6.out.ext x7)
 have Q7:=aA (Q6.out.ext x7)
 have A7:=aA (A6.out.ext x7)
 clear q0 q1 q2 q3 q4 q5 qz f0 f1 f2 fz F6 Q6 A6 X6
 clear x7
 have q0:=Q7.out.at 0 rfl;have q1:=Q7.out.at 1 rfl;have q2:=Q7.out.at 2 rfl;have q3:=Q7.out.at 3 rfl;have q4:=Q7.out.at 4 rfl;have q5:=Q7.out.at 5 rfl;have qz:=Q7.out.lt
 have f0:=F7.out.at 0 rfl;have f1:=F7.out.at 1 rfl;have f2:=F7.out.at 2 rfl;have fz:=F7.out.lt
 go_wp2_with fail
 refine(HR1.out _ (Ext.refl _)).mono ?_
 rintro e w8 ⟨v8,rfl,x8,o8⟩
 obtain⟨ma,mc,rfl⟩:=o8.slice
 have MO8:=aA o8
 have NO8:=aA (NO7.out.ext x8)
 have LO8:=aA (LO7.out.ext x8)
 have X78:=aA x8
 have X8:=aA (X7.out.trans x8)
 have F8:=aA (F7.out.ext x8)
 have Q8:=aA (Q7.out.ext x8)
 have A8:=aA (A7.out.ext x8)
 clear q0 q1 q2 q3 q4 q5 qz f0 f1 f2 fz F7 Q7 A7 X7
 clear x8 o8 NO7 LO7 HR1
 obtain⟨N,hN⟩: ∃z,aX W H (aD W H s l) (fx,fy) (tx,ty)=z:=⟨_,rfl⟩
 rw[hN]at MO8 NO8 HC HL150 HR2⊢
 have HCE:=aA (fun(w':World) (x:Ext w8 w')=>qR na ma N N nc mc w' (by have:=HL150.out;omega) (Reads.rowC (NO8.out.ext x).reads).2 (Reads.rowC (MO8.out.ext x).reads).2)
 simp only[decide_true]at HCE
 obtain⟨m,hm⟩: ∃z,N.length=z:=⟨_,rfl⟩
 have HMN:=aA hm
 rw[hm]at HCE HR2 HL150⊢
 clear hN hm NO8
 have f0:=F8.out.at 0 rfl;have f1:=F8.out.at 1 rfl;have f2:=F8.out.at 2 rfl;have fz:=F8.out.lt
 have y0:=A8.out.at 0 rfl;have y1:=A8.out.at 1 rfl;have yz:=A8.out.lt
 go_wp2_with fail
 refine(HCE.out _ (Ext.refl _)).mono ?_
 rintro e w9 ⟨rfl,x9⟩
 have MO9:=aA (MO8.out.ext x9)
 have LO9:=aA (LO8.out.ext x9)
 have X79:=aA (X78.out.trans x9)
 have X9:=aA (X8.out.trans x9)
 have F9:=aA (F8.out.ext x9)
 have A9:=aA (A8.out.ext x9)
 clear f0 f1 f2 fz y0 y1 yz F8 A8 X8
 clear x9 MO8 LO8 HCE X78 Q8
 have f0:=F9.out.at 0 rfl;have f1:=F9.out.at 1 rfl;have f2:=F9.out.at 2 rfl;have fz:=F9.out.lt
 have y0:=A9.out.at 0 rfl;have y1:=A9.out.at 1 rfl;have yz:=A9.out.lt
 go_wp2_with fail
 refine(HI.out _).mono ?_
 rintro e w10 ⟨rfl,x10⟩
 have MO:=aA (MO9.out.ext x10)
 have LO:=aA (LO9.out.ext x10)
 have X710:=aA (X79.out.trans x10)
 have X10:=aA (X9.out.trans x10)
 have A10:=aA (A9.out.ext x10)
 clear f0 f1 f2 fz y0 y1 yz A9 X9
 clear x10 MO9 LO9 X79 F9 HI
 obtain⟨h1,rfl,rfl⟩|⟨h1,hrest⟩:=(show(inB W H ax ay=false∧er=10∧L=[])∨(inB W H ax ay=true∧(((ax,ay)∉N∧er=14∧L=[])∨((ax,ay)∈N∧er=0∧L=bR W H s l (aD W H s l) (fx,fy) (tx,ty) (ax,ay)))) from by
  rcases HC.out with⟨k1,k2,k3⟩|⟨k1,k2⟩|⟨k1,k2⟩
  ·exact .inl ⟨k1,k2,k3⟩
  ·exact .inr ⟨k1, .inl k2⟩
  ·exact .inr ⟨k1, .inr k2⟩)
 ·rw[h1]
  simp only[List.length_nil]
  clear h1 HC
  go_wp2_with (go_at_call 10;refine(gP _).mono ?_;rintro e wz ⟨rfl,xz⟩;have XZ:=aA (X10.out.trans xz);clear xz)
  go_ret
  exact⟨rfl,XZ.out⟩
 ·rw[h1]
  have HIN:=aA h1
  have HRS:=aA hrest
  clear h1 hrest HC
  go_wp2_with fail
  go_loopw [14,15] (fun sv iv wr=> ∃k:Nat,k≤m∧iv= .int .i64 (k:Int)∧sv= .bool (decide ((ax,ay)∈N.take k))∧Ext w10 wr) (fun _ iv _=>m-(intOf iv).toNat)
  case atStart=>exact⟨0,Nat.zero_le _,rfl,by simp,Ext.refl _⟩
  case round=>
   obtain⟨k,hk,rfl,rfl,hx⟩:=hrel
   have HX:=aA hx
   have AR:=aA (A10.out.ext hx)
   have MR:=aA (MO.out.ext hx)
   clear hx
   by_cases hlt:k<m
   ·have hkn:k<N.length:=by rw[HMN.out];exact hlt
    have e1:N[k]? =some N[k]:=List.getElem?_eq_getElem hkn
    obtain⟨y,hy⟩: ∃y,N[k]=y:=⟨_,rfl⟩
    rw[hy]at e1
    obtain⟨bb,off,rfl,zb,hcell⟩:=rK MR.out.reads e1
    have d0:=hcell 0 _ rfl
    have d1:=hcell 1 _ rfl
    have HTM:=aA (aI2 (z:=(ax,ay)) e1)
    have jk:(k:Int)<(m:Int):=by omega
    have hmb:=HL150.out
    have hx:=HX.out
    have hq1: ∀w,(Op.equalIn 10000 28 (.agg #[.int .i64 y.1, .int .i64 y.2]) (.agg #[.int .i64 ax, .int .i64 ay])).run Tryz.prog w= .ok (decide (y=(ax,ay))) w:=fun w=>by rw[show(Value.agg #[.int .i64 ax, .int .i64 ay])= .agg #[.int .i64 (ax,ay).1, .int .i64 (ax,ay).2] from rfl,bF y (ax,ay) w,bB]
    simp only[cellE,Nat.add_zero,←Nat.add_assoc]at d0 d1
    have y0:=AR.out.at 0 rfl;have y1:=AR.out.at 1 rfl;have yz:=AR.out.lt
    clear hkn hy e1 hcell
    by_cases hnd:(ax,ay)∈N.take k
    ·have hN1:(ax,ay)∈N.take (k+1):=HTM.out.2 (.inl hnd)
     have HD1:=aA (show decide ((ax,ay)∈N.take (k+1))=true from decide_eq_true hN1)
     rw[decide_eq_true hnd]
     clear hnd hN1
     go_wp2
     go_quiet (fail)
     go_wp2
     go_roundw
     case rel=>exact⟨k+1,hlt,by go_num,by rw[HD1.out],z_x⟩
     case measure=>simp[intOf];omega
    ·have HD1:=aA (show decide ((ax,ay)∈N.take (k+1))=decide (y=(ax,ay)) from decide_eq_decide.2 (HTM.out.trans ⟨fun h=>h.resolve_left hnd, .inr⟩))
     rw[decide_eq_false hnd]
     generalize decide (y=(ax,ay))=bq at *
     clear hnd
     go_wp2
     go_quiet (fail)
     go_wp2
     go_roundw
     case rel=>exact⟨k+1,hlt,by go_num,by rw[HD1.out],z_x⟩
     case measure=>simp[intOf];omega
   ·obtain rfl:m=k:=by omega
    have X11:=aA (X10.out.trans HX.out)
    have X711:=aA (X710.out.trans HX.out)
    have LR:=aA (LO.out.ext HX.out)
    rw[List.take_of_length_le (by rw[HMN.out];exact Nat.le_refl _)]
    clear X10 X710 MO LO HX A10
    rcases HRS.out with⟨h1,rfl,rfl⟩|⟨h1,rfl,rfl⟩
    ·rw[decide_eq_false h1]
     simp only[List.length_nil]
     clear h1 HRS
     go_wp2_with (go_at_call 10;refine(gP _).mono ?_;rintro e wz ⟨rfl,xz⟩;have XZ:=aA (X11.out.trans xz);clear xz)
     go_ret
     exact⟨rfl,XZ.out⟩
    ·rw[decide_eq_true h1]
     have HRL:=aA (fun(w':World) (x:Ext wr w')=>HR2.out HIN.out w' (X711.out.trans x) ma mc (Reads.rowC (MR.out.ext x).reads).2)
     obtain⟨G,hG⟩: ∃z,bR W H s l (aD W H s l) (fx,fy) (tx,ty) (ax,ay)=z:=⟨_,rfl⟩
     rw[hG]at HRL HLB LR⊢
     have HFL:=aA (pJ (ax,ay) G)
     clear h1 HRS HR2 hG
     have y0:=AR.out.at 0 rfl;have y1:=AR.out.at 1 rfl;have yz:=AR.out.lt
     go_wp2_with fail
     refine(HRL.out _ (Ext.refl _)).mono ?_
     rintro e w12 ⟨v12,rfl,x12,o12⟩
     obtain⟨ka,kc,rfl⟩:=o12.slice
     have KO:=aA o12
     have LK:=aA (LR.out.ext x12)
     have X12:=aA (X11.out.trans x12)
     rw[HFL.out]at KO⊢
     obtain⟨u,hu⟩: ∃z,G.length=z:=⟨_,rfl⟩
     have HU:=aA hu
     rw[hu]at KO LK HLB⊢
     clear x12 o12 hu y0 y1 yz AR LR X11 X711 HRL MR
     go_wp2_with fail
     go_loopw [17] (fun iv wr=> ∃k:Nat,k≤u∧iv= .int .i64 (k:Int)∧Ext w12 wr) (fun iv _=>u-(intOf iv).toNat)
     case atStart=>exact⟨0,Nat.zero_le _,rfl,Ext.refl _⟩
     case round=>
      obtain⟨k,hk,rfl,hx⟩:=hrel
      have HX:=aA hx
      by_cases hlt:k<u
      ·have hkn:k<G.length:=by rw[HU.out];exact hlt
       have e1:G[k]? =some G[k]:=List.getElem?_eq_getElem hkn
       obtain⟨y,hy⟩: ∃y,G[k]=y:=⟨_,rfl⟩
       rw[hy]at e1
       obtain⟨b1,o1,rfl,z1,c1⟩:=rK (LK.out.ext hx).reads e1
       have e2:(cK (ax,ay) G)[k]? =some ((ax,ay),y):=by unfold cK;rw[List.getElem?_map,e1];rfl
       obtain⟨b2,o2,rfl,z2,c2⟩:=rK (KO.out.ext hx).reads e2
       have d0:=c1 0 _ rfl
       have d1:=c1 1 _ rfl
       have d2:=c1 2 _ rfl
       have d3:=c1 3 _ rfl
       have d4:=c1 4 _ rfl
       have g0:=c2 0 _ rfl
       have g1:=c2 1 _ rfl
       have g2:=c2 2 _ rfl
       have g3:=c2 3 _ rfl
       have g4:=c2 4 _ rfl
       have jk:(k:Int)<(u:Int):=by omega
       have hub:=HLB.out
       have hq1: ∀w,(Op.equalIn 10000 28 (.agg #[.int .i64 ax, .int .i64 ay]) (.agg #[.int .i64 ax, .int .i64 ay])).run Tryz.prog w= .ok true w:=fun w=>by rw[show(Value.agg #[.int .i64 ax, .int .i64 ay])= .agg #[.int .i64 (ax,ay).1, .int .i64 (ax,ay).2] from rfl,bF (ax,ay) (ax,ay) w,bB];simp
       obtain⟨⟨yx,yy⟩,yc⟩:=y
       have hq2: ∀w,(Op.equalIn 10000 28 (.agg #[.int .i64 yx, .int .i64 yy]) (.agg #[.int .i64 yx, .int .i64 yy])).run Tryz.prog w= .ok true w:=fun w=>by rw[show(Value.agg #[.int .i64 yx, .int .i64 yy])= .agg #[.int .i64 (yx,yy).1, .int .i64 (yx,yy).2] from rfl,bF (yx,yy) (yx,yy) w,bB];simp
       have hq3:(yc !=yc)=false:=by simp
       simp only[sA,mT,Nat.add_zero,←Nat.add_assoc]at d0 d1 d2 d3 d4 g0 g1 g2 g3 g4
       clear hkn hy e1 e2 c1 c2 hx
       have hx:=HX.out
       go_wp2
       go_quiet (fail)
       go_wp2
       go_roundw
       case rel=>exact⟨k+1,hlt,by go_num,z_x⟩
       case measure=>simp[intOf];omega
      ·obtain rfl:u=k:=by omega
       have X13:=aA (X12.out.trans hx)
       clear hx
       go_wp2_with (go_at_call 10;refine(gP _).mono ?_;rintro e wz ⟨rfl,xz⟩;have XZ:=aA (X13.out.trans xz);clear xz)
       go_ret
       exact⟨rfl,XZ.out⟩
theorem wL {w:World} (W H:Int) (a:Option Addr) (l:List Int) (c:Nat) (s fx fy tx ty b ax ay:Int) (hr:Row16 w a l) (hu:cN l):
  Calls Tryz.prog 5 #[.agg #[.int .i64 W, .int .i64 H, .slice a l.length c], .agg #[.int .i64 s, .int .i64 fx, .int .i64 fy, .int .i64 tx, .int .i64 ty, .int .i64 b], .agg #[.int .i64 ax, .int .i64 ay]] w fun e w'=>e= .returned (.bool true)∧Ext w w':=by
 cases hm:(decide (l.length≤150)&&decide (iC W H l.length s=0))
 ·exact aMb W H a l.length c s fx fy tx ty b ax ay hm
 ·rw[Bool.and_eq_true,decide_eq_true_eq,decide_eq_true_eq]at hm
  by_cases hon:inB W H fx fy=true∧inB W H tx ty=true
  ·exact aM1 c fx fy tx ty b ax ay (xQ hu hm.2) hm.1 hr hm.2 hon
  ·exact aLo c fx fy tx ty b ax ay (xQ hu hm.2) hm.1 hr hm.2 hon
end Go.Proofs.YtaellcgglldjaaaGreat

namespace Go.Proofs.YtaellcgglldjaaaGreat
open Go.RowKit Go.ChangeShapes Go.WideShapes Go.ChangeAt
section
variable {H:Type} {enc:TypeId×Value→H} {w:World} {r:Reach} {base b0:Nat} {spare:Nat→Bool} {held:Bool}
theorem aLw {n:Int} (h:(Lit.int .i64 n).wf=true):InI n:=by
 have hmin:IntKind.i64.min= -9223372036854775808:=rfl
 have hmax:IntKind.i64.max=9223372036854775807:=rfl
 simp only[Lit.wf,Bool.and_eq_true,decide_eq_true_eq]at h
 unfold InI;omega
theorem pV {fuel:Nat} {v:Value} {x:DataW H×List MemPlace} (h:DataW.trod enc Tryz.prog w base spare held fuel 3 [v]=some x): ∃n,v= .int .i64 n∧InI n:=by
 obtain⟨n,hc,_,hw⟩:=DataW.trod_int Tryz.underlying3 h
 simp at hc
 exact⟨n,hc,aLw hw⟩
theorem oE {t:TypeId} {f0 f1:Field} {fuel:Nat} {c0 c1:Value} {x:DataW H×List MemPlace} (ht:Tryz.prog.underlying t=some (.struct #[f0,f1])) (e0:f0.type=3∧f0.offset=0) (e1:f1.type=3∧f1.offset=1) (h:DataW.trod enc Tryz.prog w base spare held fuel t [c0,c1]=some x):
  ∃a b,c0= .int .i64 a∧c1= .int .i64 b∧InI a∧InI b:=by
 obtain⟨xs,n,_,_,_,hlen,hf⟩:=DataW.trod_struct ht h
 have hc:Tryz.prog.cellsOf 3=1:=by kernel_rfl
 match xs,hlen with
 |[y0,y1],_=>
  have h0:=hf 0 f0 rfl
  have h1:=hf 1 f1 rfl
  rw[e0.1,e0.2,hc]at h0
  rw[e1.1,e1.2,hc]at h1
  obtain⟨a,rfl,ha⟩:=pV h0
  obtain⟨b,rfl,hb⟩:=pV h1
  exact⟨a,b,rfl,rfl,ha,hb⟩
set_option maxRecDepth 100000 in
theorem aDq:Tryz.prog.cellsOf 28=2:=by kernel_rfl
set_option maxRecDepth 100000 in
theorem aFm {v:Value} {d:DataW H} {p:List MemPlace} (hv:Value.okWide Tryz.prog w r b0 28 v) (h:DataW.Trod enc Tryz.prog w base spare held 28 v d p): ∃x y,v= .agg #[.int .i64 x, .int .i64 y]∧InI x∧InI y:=by
 obtain⟨cs,rfl,hsz⟩:=okWide_struct Tryz.underlying28 hv
 obtain⟨l⟩:=cs
 rw[aDq]at hsz
 match l,hsz with
 |[c0,c1],_=>
  obtain⟨fuel,hf⟩:=h
  obtain⟨a,b,rfl,rfl,ha,hb⟩:=oE Tryz.underlying28 ⟨rfl,rfl⟩ ⟨rfl,rfl⟩ hf
  exact⟨a,b,rfl,ha,hb⟩
end
theorem own:ownKnob Tryz.prog.godebug=none:=by kernel_rfl
theorem uQ:laidOutB Tryz.prog=true:=by kernel_rfl
section
variable {H:Type} {enc:TypeId×Value→H} {w:World} {r:Reach} {base b0:Nat} {spare:Nat→Bool} {held:Bool}
def aLd (w:World) (W Hh:Int) (a:Option Addr) (l:List Int):Prop:=InI W∧InI Hh∧(l.length:Int)≤9223372036854775807∧Row16 w a l∧cN l
set_option maxRecDepth 100000 in
theorem aAn:Tryz.prog.cellsOf 26=3:=by kernel_rfl
set_option maxRecDepth 100000 in
theorem aFl:Tryz.prog.cellsOf 84=1:=by kernel_rfl
theorem aJ0 {a:Addr} {len:Nat} {zs:List Int} (hlen:len≤zs.length) (hc: ∀i,i<zs.length→w.cell? (a.add i)=some (.int .u16 (zs.getD i 0))) (hw: ∀n∈zs,(Lit.int .u16 n).wf=true):(zs.take len).length=len∧Row16 w (some a) (zs.take len)∧cN (zs.take len):=by
 have hl:(zs.take len).length=len:=by rw[List.length_take];omega
 refine⟨hl,fun h0=> ?_,fun x hx=> ?_⟩
 ·obtain⟨b,off,spot⟩:=a
  have z0:=hc 0 (by omega)
  have hspot:spot=none:=by simpa [Addr.add] using World.cell?_spot z0
  subst hspot
  have z0':w.cell? ⟨b,off,none⟩=some (.int .u16 (zs.getD 0 0)):=by simpa [Addr.add] using z0
  refine⟨b,off,rfl,World.block_lt_of_cell? w _ z0',fun k hk=> ?_⟩
  have:=hc k (by omega)
  rw[Addr.add_lit]at this
  rw[this]
  have hk':k<zs.length:=by omega
  simp[List.getD_eq_getElem?_getD,hk']
 ·have hmem:x∈zs:=List.mem_of_mem_take hx
  have h:=hw x hmem
  have hmin:IntKind.u16.min=0:=rfl
  have hmax:IntKind.u16.max=65535:=rfl
  simp only[Lit.wf,Bool.and_eq_true,decide_eq_true_eq]at h
  omega
set_option maxRecDepth 100000 in
theorem aD8 {v:Value} {d:DataW H} {p:List MemPlace} (hv:Value.okWide Tryz.prog w r b0 26 v) (h:DataW.Trod enc Tryz.prog w base spare held 26 v d p):
  ∃W Hh a l c,v= .agg #[.int .i64 W, .int .i64 Hh, .slice a (List.length l) c]∧aLd w W Hh a l:=by
 obtain⟨cs,rfl,hsz⟩:=okWide_struct Tryz.underlying26 hv
 obtain⟨l⟩:=cs
 rw[aAn]at hsz
 match l,hsz with
 |[c0,c1,c2],_=>
  obtain⟨fuel,hf⟩:=h
  obtain⟨xs,n,_,_,_,hlen,hf⟩:=DataW.trod_struct Tryz.underlying26 hf
  match xs,hlen with
  |[y0,y1],_=>
   have h0:=hf 0 _ rfl
   have h1:=hf 1 _ rfl
   obtain⟨a,b,rfl,rfl,ha,hb⟩:=oE (c0:=c0) (c1:=c1) Tryz.underlying23 ⟨rfl,rfl⟩ ⟨rfl,rfl⟩ h0
   have h1':DataW.trod enc Tryz.prog w base spare held n 24 [c2]=some y1:=h1
   rcases open_ints Tryz.underlying24 Tryz.underlying84 aFl h1' with⟨hc,_⟩|⟨ad,len,cap,zs,hc,_,hl,hm,hz,_,hcell,hwz⟩
   ·simp at hc
    subst hc
    exact⟨a,b,none,[],0,rfl,ha,hb,by simp,fun h=>by simp at h,fun x hx=>by simp at hx⟩
   ·simp at hc
    subst hc
    have hle:len≤zs.length:=by rw[hz];split<;>omega
    obtain⟨q1,q2,q3⟩:=aJ0 hle hcell hwz
    refine⟨a,b,some ad,zs.take len,cap,by rw[q1],ha,hb,?_,q2,q3⟩
    rw[q1];unfold maxLen at hm;omega
end
section
variable {H:Type} {enc:TypeId×Value→H} {P:Program} {w:World} {base:Nat} {spare:Nat→Bool} {held:Bool}
end
section
variable {H:Type} {enc:TypeId×Value→H} {w:World} {r:Reach} {base b0:Nat} {spare:Nat→Bool} {held:Bool}
end
section
variable {H:Type} {enc:TypeId×Value→H} {w:World} {r:Reach} {base b0:Nat} {spare:Nat→Bool} {held:Bool}
end
end Go.Proofs.YtaellcgglldjaaaGreat

namespace Go.Proofs.YtaellcgglldjaaaGreat
open Go.RowKit Go.ChangeShapes Go.WideShapes Go.ChangeAt
section
variable {H:Type} {enc:TypeId×Value→H} {w:World} {r:Reach} {base b0:Nat} {spare:Nat→Bool} {held:Bool}
set_option maxRecDepth 100000 in
theorem aBg:Tryz.prog.cellsOf 30=6:=by kernel_rfl
set_option maxRecDepth 100000 in
theorem aCx {v:Value} {d:DataW H} {p:List MemPlace} (hv:Value.okWide Tryz.prog w r b0 30 v) (h:DataW.Trod enc Tryz.prog w base spare held 30 v d p): ∃s x y z u b,v= .agg #[.int .i64 s, .int .i64 x, .int .i64 y, .int .i64 z, .int .i64 u, .int .i64 b]∧InI s∧InI x∧InI y∧InI z∧InI u∧InI b:=by
 obtain⟨cs,rfl,hsz⟩:=okWide_struct Tryz.underlying30 hv
 obtain⟨l⟩:=cs
 rw[aBg]at hsz
 match l,hsz with
 |[c0,c1,c2,c3,c4,c5],_=>
  obtain⟨fuel,hf⟩:=h
  obtain⟨xs,n,_,_,_,hlen,hf⟩:=DataW.trod_struct Tryz.underlying30 hf
  match xs,hlen with
  |[y0,y1,y2,y3],_=>
   obtain⟨s,rfl,hs⟩:=pV (v:=c0) (hf 0 _ rfl)
   obtain⟨a,b,rfl,rfl,ha,hb⟩:=oE (c0:=c1) (c1:=c2) Tryz.underlying28 ⟨rfl,rfl⟩ ⟨rfl,rfl⟩ (hf 1 _ rfl)
   obtain⟨c,e,rfl,rfl,hc,he⟩:=oE (c0:=c3) (c1:=c4) Tryz.underlying28 ⟨rfl,rfl⟩ ⟨rfl,rfl⟩ (hf 2 _ rfl)
   obtain⟨g,rfl,hg⟩:=pV (v:=c5) (hf 3 _ rfl)
   exact⟨s,a,b,c,e,g,rfl,hs,ha,hb,hc,he,hg⟩
end
end Go.Proofs.YtaellcgglldjaaaGreat

