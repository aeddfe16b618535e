/- Part of a proof: LawHL. -/
import Derived.Test.YtaellcgglldjaaaGreatHq39
import Derived.Test.YtaellcgglldjaaaGreatHq43
import Derived.Test.YtaellcgglldjaaaGreatHq03
set_option linter.all false
set_option linter.unusedVariables false
set_option linter.unusedSimpArgs false
namespace Go.Proofs.YtaellcgglldjaaaGreat
open Go.RowKit
set_option maxRecDepth 100000 in
theorem aLo {w:World} (W H:Int) (a:Option Addr) (n c:Nat) (s fx fy tx ty b:Int) (hm:(decide (n≤150)&&decide (fK W H n s=0))=false):
  Calls Tryz.prog 8 #[.agg #[.int .i64 W, .int .i64 H, .slice a n c], .agg #[.int .i64 s, .int .i64 fx, .int .i64 fy, .int .i64 tx, .int .i64 ty, .int .i64 b]] w fun e w'=>e= .returned (.bool true)∧Ext w w':=by
 have HM:=aA (fun(w':World)=>kE W H a n c s fx fy tx ty b w')
 rw[hm]at HM
 clear hm
 go_enter Tryz.func8,Tryz.ntmps8
 go_upto_region 1 with(fail)
 obtain⟨w1,hw1⟩: ∃z,z=(w.alloc (.cells #[.int .i64 W, .int .i64 H, .slice a n c] 26)).alloc (.cells #[.int .i64 s, .int .i64 fx, .int .i64 fy, .int .i64 tx, .int .i64 ty, .int .i64 b] 30):=⟨_,rfl⟩
 have X1:=aA (show Ext w w1 by rw[hw1];exact((Ext.refl _).alloc _).alloc _)
 have F1:=aA (show Blk w1 w.heap.size 26 #[.int .i64 W, .int .i64 H, .slice a n c] by rw[hw1];exact(Blk.new_ rfl).over)
 have Q1:=aA (show Blk w1 (w.heap.size+1) 30 #[.int .i64 s, .int .i64 fx, .int .i64 fy, .int .i64 tx, .int .i64 ty, .int .i64 b] by rw[hw1];exact Blk.new_ (by simp))
 rw[←hw1]
 obtain⟨fb,hfb⟩: ∃z,w.heap.size=z:=⟨_,rfl⟩
 rw[hfb]at F1 Q1⊢
 clear hw1 hfb
 have q0:=Q1.out.at 0 rfl;have q1:=Q1.out.at 1 rfl;have q2:=Q1.out.at 2 rfl;have q3:=Q1.out.at 3 rfl;have q4:=Q1.out.at 4 rfl;have q5:=Q1.out.at 5 rfl;have qz:=Q1.out.lt
 have f0:=F1.out.at 0 rfl;have f1:=F1.out.at 1 rfl;have f2:=F1.out.at 2 rfl;have fz:=F1.out.lt
 go_wp2_with fail
 refine(HM.out _).mono ?_
 rintro e w2 ⟨rfl,x2⟩
 have X2:=aA (X1.out.trans x2)
 clear x2
 go_wp2_with (go_at_call 10;refine(cY _).mono ?_;rintro e wz ⟨rfl,xz⟩;have XZ:=aA (X2.out.trans xz);clear xz)
 go_ret
 exact⟨rfl,XZ.out⟩
set_option maxRecDepth 100000 in
theorem aL2 {w:World} (W H:Int) (a:Option Addr) (n c:Nat) (s fx fy tx ty b:Int) (hm:(decide (n≤150)&&decide (fK W H n s=0))=true) (hmay:bM W H=true) (ho:(inB W H fx fy&&inB W H tx ty)=false):
  Calls Tryz.prog 8 #[.agg #[.int .i64 W, .int .i64 H, .slice a n c], .agg #[.int .i64 s, .int .i64 fx, .int .i64 fy, .int .i64 tx, .int .i64 ty, .int .i64 b]] w fun e w'=>e= .returned (.bool true)∧Ext w w':=by
 have HM:=aA (fun(w':World)=>kE W H a n c s fx fy tx ty b w')
 have HON:=aA (fun(w':World)=>yP W H a n c s fx fy tx ty b w' hmay)
 rw[hm]at HM
 rw[ho]at HON
 clear hm ho hmay
 go_enter Tryz.func8,Tryz.ntmps8
 go_upto_region 1 with(fail)
 obtain⟨w1,hw1⟩: ∃z,z=(w.alloc (.cells #[.int .i64 W, .int .i64 H, .slice a n c] 26)).alloc (.cells #[.int .i64 s, .int .i64 fx, .int .i64 fy, .int .i64 tx, .int .i64 ty, .int .i64 b] 30):=⟨_,rfl⟩
 have X1:=aA (show Ext w w1 by rw[hw1];exact((Ext.refl _).alloc _).alloc _)
 have F1:=aA (show Blk w1 w.heap.size 26 #[.int .i64 W, .int .i64 H, .slice a n c] by rw[hw1];exact(Blk.new_ rfl).over)
 have Q1:=aA (show Blk w1 (w.heap.size+1) 30 #[.int .i64 s, .int .i64 fx, .int .i64 fy, .int .i64 tx, .int .i64 ty, .int .i64 b] by rw[hw1];exact Blk.new_ (by simp))
 rw[←hw1]
 obtain⟨fb,hfb⟩: ∃z,w.heap.size=z:=⟨_,rfl⟩
 rw[hfb]at F1 Q1⊢
 clear hw1 hfb
 have q0:=Q1.out.at 0 rfl;have q1:=Q1.out.at 1 rfl;have q2:=Q1.out.at 2 rfl;have q3:=Q1.out.at 3 rfl;have q4:=Q1.out.at 4 rfl;have q5:=Q1.out.at 5 rfl;have qz:=Q1.out.lt
 have f0:=F1.out.at 0 rfl;have f1:=F1.out.at 1 rfl;have f2:=F1.out.at 2 rfl;have fz:=F1.out.lt
 go_wp2_with fail
 refine(HM.out _).mono ?_
 rintro e w2 ⟨rfl,x2⟩
 have X2:=aA (X1.out.trans x2)
 have F2:=aA (F1.out.ext x2)
 have Q2:=aA (Q1.out.ext x2)
 clear x2 F1 Q1 X1 q0 q1 q2 q3 q4 q5 qz f0 f1 f2 fz
 have q0:=Q2.out.at 0 rfl;have q1:=Q2.out.at 1 rfl;have q2:=Q2.out.at 2 rfl;have q3:=Q2.out.at 3 rfl;have q4:=Q2.out.at 4 rfl;have q5:=Q2.out.at 5 rfl;have qz:=Q2.out.lt
 have f0:=F2.out.at 0 rfl;have f1:=F2.out.at 1 rfl;have f2:=F2.out.at 2 rfl;have fz:=F2.out.lt
 go_wp2_with fail
 refine(HON.out _).mono ?_
 rintro e w3 ⟨rfl,x3⟩
 have X3:=aA (X2.out.trans x3)
 clear x3
 go_wp2_with (go_at_call 10;refine(cY _).mono ?_;rintro e wz ⟨rfl,xz⟩;have XZ:=aA (X3.out.trans xz);clear xz)
 go_ret
 exact⟨rfl,XZ.out⟩
def nJ (w8:World) (B gb:Nat) (n:Nat) (far:Nat→Int) (wr:World):Prop:=FarAt wr B gb n far n∧Touch (fun k=>k=gb) w8 wr
set_option maxRecDepth 100000 in
set_option maxHeartbeats 8000000 in
theorem aL3 {w:World} {W H:Int} {a:Option Addr} {l:List Int} (c:Nat) {s:Int} (fx fy tx ty b:Int) (g:Good W H s l) (hl:l.length≤150) (hr:Row16 w a l) (he:fK W H l.length s=0) (hf:inB W H fx fy=true) (ht:inB W H tx ty=true):
  Calls Tryz.prog 8 #[.agg #[.int .i64 W, .int .i64 H, .slice a l.length c], .agg #[.int .i64 s, .int .i64 fx, .int .i64 fy, .int .i64 tx, .int .i64 ty, .int .i64 b]] w fun e w'=>e= .returned (.bool true)∧Ext w w':=by
 obtain⟨hmay,hlw⟩:=checkE_ok.1 g.ok
 have HM:=aA (fun(w':World)=>kE W H a l.length c s fx fy tx ty b w')
 rw[he,show decide (l.length≤150)=true by simpa using hl]at HM
 simp only[decide_true,Bool.true_and]at HM
 have HON:=aA (fun(w':World)=>yP W H a l.length c s fx fy tx ty b w' hmay)
 rw[hf,ht]at HON
 simp only[Bool.and_self]at HON
 have hgl:=uU g hl
 have mb:=mayB_true.1 hmay
 obtain⟨D,F⟩:=kX (aZ g) (aC W (fx,fy))
 have HNW:=aA (fun(w':World) (x:Ext w w')=>pD (w:=w') c g (hr.ext x) (by omega))
 have HFI:=aA (fun(p:Spot) (R:Nat→Prop) (w':World) (h:WorldAt w' p R W H s l) (b:Int)=>nX h g hl hgl (fx,fy) (tx,ty) b)
 have HPA:=aA (fun(p:Spot) (R:Nat→Prop) (w':World) (h:WorldAt w' p R W H s l)=>(by obtain⟨G,T,h1,_⟩:=h;exact mQ h1:Calls Tryz.prog 18 #[.pointer (some ⟨p.b,0,none⟩)] w' fun e w''=>e= .returned (.agg #[.int .i64 W, .int .i64 H, .int .i64 s])∧Ext w' w''))
 have HGA:=aA (fun(p:Spot) (R:Nat→Prop) (w':World) (h:WorldAt w' p R W H s l)=>(by obtain⟨G,T,h1,h3⟩:=h;exact mP h1 h3.gates:Calls Tryz.prog 29 #[.pointer (some ⟨p.b,0,none⟩)] w' (oO w' (aI W H s l))))
 have HCO:=aA (fun(w':World) (x:Ext w w') (u v:Int) (h:inB W H u v=true)=>(by have:=inB_true.1 h;exact aFy W H a l c u v w' hmay hlw (hr.ext x) g.u16 (by omega) (by omega) (by omega) (by omega)))
 have HI:=aA (fun(w':World) (u v:Int)=>pC W H u v w' hmay)
 have HCR:=aA (fun(w':World) (ga:Option Addr) (gc:Nat) (hG:Reads bV w' (.slice ga (aI W H s l).length gc) (aI W H s l)) (x y u v:Int) (h1:inB W H x y=true) (h2:inB W H u v=true)=>aAe (w:=w') g.right h1 h2 (by omega) hG)
 have HRT:=aA (fun(w':World) (x:Ext w w') (pa:Option Addr) (p:List aB) (pc:Nat) (h:RowC w' pa p) (hpc:p.length≤pc) (G:gN W H l p)=>aGa (w:=w') c pc g.ok (hr.ext x) g.u16 h hpc G)
 have HTL:=aA (fun(p:List aB) (c k e:Int) (h:HSrch W H s l (fx,fy) (tx,ty) l.length p c k e)=>aK3 g hl hf ht F h)
 have HG:=aA g
 have HU:=aA g.u16
 have HDF:=aA F
 have HIF:=aA hf
 have HIT:=aA ht
 have HMB:=aA mb
 have HIX:=aA (fun(x y:Int) (h:inB W H x y=true)=>(by
  have hb:=inB_true.1 h
  have h1:=(bF g).idx_lt (x:=x) (y:=y) (by omega)
  have h2:=bP (W:=W) (x:=x) (y:=y) (by omega) (by omega) (by omega)
  have h3:=cP (a:=y) (b:=W) (A:=256) (B:=256) (by omega) (by omega) (by omega) (by omega)
  exact⟨h1,IntWalk.i64_in _ (by omega),by rw[h2];exact IntWalk.i64_in _ (by omega)⟩:aC W (x,y)<l.length∧IntKind.i64.wrap (y*W)=y*W∧IntKind.i64.wrap (y*W+x)=((aC W (x,y):Nat):Int)))
 have hn1:1≤l.length:=by
  have:=cP (a:=W) (b:=H) (A:=256) (B:=256) (by omega) (by omega) (by omega) (by omega)
  have:=Int.mul_pos (show 0<W by omega) (show 0<H by omega)
  omega
 have hn150:l.length≤150:=hl
 simp only at HFI HTL
 obtain⟨n,hn⟩: ∃z,l.length=z:=⟨_,rfl⟩
 have HN:=aA hn
 rw[hn]at HNW HM HON HCO HRT HTL hn1 hn150 HIX
 rw[hn]
 clear hl hr he hn hgl hmay hlw F mb hf ht
 go_enter Tryz.func8,Tryz.ntmps8
 go_upto_region 1 with(fail)
 obtain⟨w1,hw1⟩: ∃z,z=(w.alloc (.cells #[.int .i64 W, .int .i64 H, .slice a n c] 26)).alloc (.cells #[.int .i64 s, .int .i64 fx, .int .i64 fy, .int .i64 tx, .int .i64 ty, .int .i64 b] 30):=⟨_,rfl⟩
 have X1:=aA (show Ext w w1 by rw[hw1];exact((Ext.refl _).alloc _).alloc _)
 have F1:=aA (show Blk w1 w.heap.size 26 #[.int .i64 W, .int .i64 H, .slice a n c] by rw[hw1];exact(Blk.new_ rfl).over)
 have Q1:=aA (show Blk w1 (w.heap.size+1) 30 #[.int .i64 s, .int .i64 fx, .int .i64 fy, .int .i64 tx, .int .i64 ty, .int .i64 b] by rw[hw1];exact Blk.new_ (by simp))
 rw[←hw1]
 obtain⟨fb,hfb⟩: ∃z,w.heap.size=z:=⟨_,rfl⟩
 rw[hfb]at F1 Q1⊢
 clear hw1 hfb
 have q0:=Q1.out.at 0 rfl;have q1:=Q1.out.at 1 rfl;have q2:=Q1.out.at 2 rfl;have q3:=Q1.out.at 3 rfl;have q4:=Q1.out.at 4 rfl;have q5:=Q1.out.at 5 rfl;have qz:=Q1.out.lt
 have f0:=F1.out.at 0 rfl;have f1:=F1.out.at 1 rfl;have f2:=F1.out.at 2 rfl;have fz:=F1.out.lt
 go_wp2_with fail
 refine(HM.out _).mono ?_
 rintro e w2 ⟨rfl,x2⟩
 have X2:=aA (X1.out.trans x2)
 have F2:=aA (F1.out.ext x2)
 have Q2:=aA (Q1.out.ext x2)
 clear x2 F1 Q1 X1 q0 q1 q2 q3 q4 q5 qz f0 f1 f2 fz
 have q0:=Q2.out.at 0 rfl;have q1:=Q2.out.at 1 rfl;have q2:=Q2.out.at 2 rfl;have q3:=Q2.out.at 3 rfl;have q4:=Q2.out.at 4 rfl;have q5:=Q2.out.at 5 rfl;have qz:=Q2.out.lt
 have f0:=F2.out.at 0 rfl;have f1:=F2.out.at 1 rfl;have f2:=F2.out.at 2 rfl;have fz:=F2.out.lt
 go_wp2_with fail
 refine(HON.out _).mono ?_
 rintro e w3 ⟨rfl,x3⟩
 have X3:=aA (X2.out.trans x3)
 have F3:=aA (F2.out.ext x3)
 have Q3:=aA (Q2.out.ext x3)
 clear x3 F2 Q2 X2 HM HON q0 q1 q2 q3 q4 q5 qz f0 f1 f2 fz
 have q0:=Q3.out.at 0 rfl;have q1:=Q3.out.at 1 rfl;have q2:=Q3.out.at 2 rfl;have q3:=Q3.out.at 3 rfl;have q4:=Q3.out.at 4 rfl;have q5:=Q3.out.at 5 rfl;have qz:=Q3.out.lt
 have f0:=F3.out.at 0 rfl;have f1:=F3.out.at 1 rfl;have f2:=F3.out.at 2 rfl;have fz:=F3.out.lt
 go_wp2_with fail
 refine(HNW.out _ X3.out).mono ?_
 rintro e w4 ⟨p,R,rfl,hw,x4,_,_⟩
 have HFB:=aA (fun(w':World) (x:Ext w4 w') (b:Int)=>HFI.out p R w' (hw.ext x) b)
 have HP1:=aA (fun(w':World) (x:Ext w4 w')=>HPA.out p R w' (hw.ext x))
 have HG1:=aA (fun(w':World) (x:Ext w4 w')=>HGA.out p R w' (hw.ext x))
 obtain⟨pb,hpb⟩: ∃z,p.b=z:=⟨_,rfl⟩
 rw[hpb]at HFB HP1 HG1⊢
 have X4:=aA (X3.out.trans x4)
 have F4:=aA (F3.out.ext x4)
 have Q4:=aA (Q3.out.ext x4)
 clear x4 hw hpb HFI HPA HGA HNW F3 Q3 X3 q0 q1 q2 q3 q4 q5 qz f0 f1 f2 fz
 go_wp2_with fail
 refine(HP1.out _ (Ext.refl _)).mono ?_
 rintro e w5 ⟨rfl,x5⟩
 go_upto_region 7 with(fail)
 obtain⟨w6,hw6⟩: ∃z,z=w5.alloc (.cells #[.int .i64 W, .int .i64 H, .int .i64 s] 53):=⟨_,rfl⟩
 have x56:Ext w5 w6:=by rw[hw6];exact(Ext.refl _).alloc _
 have P6:=aA (show Blk w6 w5.heap.size 53 #[.int .i64 W, .int .i64 H, .int .i64 s] by rw[hw6];exact Blk.new_ rfl)
 rw[←hw6]
 obtain⟨pp,hpp⟩: ∃z,w5.heap.size=z:=⟨_,rfl⟩
 rw[hpp]at P6⊢
 have X46:=aA (x5.trans x56)
 have X6:=aA (X4.out.trans X46.out)
 have F6:=aA (F4.out.ext X46.out)
 have Q6:=aA (Q4.out.ext X46.out)
 clear x5 x56 hw6 hpp F4 Q4 X4 HP1
 go_wp2_with fail
 refine(HG1.out _ X46.out).mono ?_
 rintro e w7 ⟨v7,rfl,x7,o7⟩
 obtain⟨ga,gc,rfl⟩:=o7.slice
 have X47:=aA (X46.out.trans x7)
 have X7:=aA (X6.out.trans x7)
 have F7:=aA (F6.out.ext x7)
 have Q7:=aA (Q6.out.ext x7)
 have P7:=aA (P6.out.ext x7)
 have HCX:=aA (fun(w':World) (x:Ext w7 w') (x1 y u v:Int) (h1:inB W H x1 y=true) (h2:inB W H u v=true)=>HCR.out w' ga gc (o7.ext x).reads x1 y u v h1 h2)
 obtain⟨gl,hgl⟩: ∃z,(aI W H s l).length=z:=⟨_,rfl⟩
 rw[hgl]at HCX⊢
 clear x7 o7 hgl HCR X46 X6 F6 Q6 P6 HG1
 have f0:=F7.out.at 0 rfl;have f1:=F7.out.at 1 rfl;have f2:=F7.out.at 2 rfl;have fz:=F7.out.lt
 go_wp2_with (at_make;refine tI u64E T_u64s 0 rfl rfl rfl rfl _ _ rfl (w7.heap.size) n rfl rfl (by omega) (by decide) (by simp) ?_)
 intro gb w8 hgb hown hx8
 have FA8:Hid (FarAt w8 w7.heap.size gb n (nR 0) n):=aA (by unfold FarAt;rw[←aHh];exact hown)
 have HW:Hid (∀wr,Touch (fun k=>k=gb) w8 wr→Ext w7 wr∧gb<wr.heap.size):=aA (fun wr t=>⟨hx8.of_below (t.to_below (B:=w7.heap.size) hx8.size (fun k hk=>by omega)) (Nat.le_refl _),Nat.lt_of_lt_of_le FA8.out.lt.2 t.size⟩)
 have HGB:=aA (And.intro hgb (show pp<gb∧fb<gb∧fb+1<gb from by have h1:=P7.out.lt;have h2:=F7.out.lt;have h3:=Q7.out.lt;omega))
 obtain⟨B,hB⟩: ∃z,w7.heap.size=z:=⟨_,rfl⟩
 rw[hB]at FA8
 have HBB:=aA hB
 clear hgb hown hx8 hB f0 f1 f2 fz
 go_wp2_with fail
 go_loopw [10] (fun i wr=> ∃k:Nat,k≤n∧i= .int .i64 k∧nJ w8 B gb n (nR k) wr) (fun i _=>n-(intOf i).toNat)
 case atStart=>exact⟨0,by omega,rfl,FA8.out,Touch.refl _ _⟩
 case round=>
  obtain⟨k,hk,rfl,hfa,htt⟩:=hrel
  clear FA8
  by_cases hlt:k<n
  ·have c0:=(hfa.cell hlt).1
   have c1:=(hfa.cell hlt).2
   have j1:(k:Int)<(n:Int):=by omega
   have REL:Hid (nJ w8 B gb n (nR (k+1)) (wr.setCell ⟨gb,k,none⟩ (.int .u64 18446744073709551615))):=aA
    ⟨(hfa.turn hlt 18446744073709551615).congr (fun v _=>by
     unfold bG nR
     by_cases e:v=k
     ·subst e;rw[if_pos rfl,if_pos (by omega)];rfl
     ·rw[if_neg e];by_cases h:v<k
      ·rw[if_pos h,if_pos (by omega)]
      ·rw[if_neg h,if_neg (by omega)]),htt.setCell (p:=⟨gb,k,none⟩) (.inl rfl) _⟩
   clear hfa htt
   go_wp2
   go_roundw
   case rel=>exact⟨k+1,by omega,by go_num,REL.out⟩
   case measure=>simp[intOf];omega
  ·have FA2:=aA (hfa.congr (f':=fun _=>aE) (fun v hv=>by unfold nR;rw[if_pos (by omega)]))
   obtain⟨xr,zr⟩:=HW.out _ htt
   have XR:=aA xr
   have QR:=aA (Q7.out.ext xr)
   have FR:=aA (F7.out.ext xr)
   have TR:=aA htt
   have HC0:=aA (fun(w':World) (x:Ext wr w')=>HCO.out w' (X7.out.trans (XR.out.trans x)) fx fy HIF.out)
   have HFS:Hid (oX W l (fx,fy)=if aH l W (fx,fy)≠0 then bG (fun _=>aE) (aC W (fx,fy)) 0 else fun _=>aE):=aA rfl
   obtain⟨i0,i1,i2⟩:=HIX.out _ _ HIF.out
   obtain⟨c0,hc0⟩: ∃z,aH l W (fx,fy)=z:=⟨_,rfl⟩
   obtain⟨st,hst⟩: ∃z,aC W (fx,fy)=z:=⟨_,rfl⟩
   rw[hc0]at HC0
   rw[hc0,hst]at HFS
   rw[hst]at i0 i2
   clear hfa htt xr hc0 hst
   have q0:=QR.out.at 0 rfl;have q1:=QR.out.at 1 rfl;have q2:=QR.out.at 2 rfl;have q3:=QR.out.at 3 rfl;have q4:=QR.out.at 4 rfl;have q5:=QR.out.at 5 rfl;have qz:=QR.out.lt
   have f0:=FR.out.at 0 rfl;have f1:=FR.out.at 1 rfl;have f2:=FR.out.at 2 rfl;have fz:=FR.out.lt
   go_wp2_with fail
   refine(HC0.out _ (Ext.refl _)).mono ?_
   rintro e w9 ⟨rfl,x9⟩
   have FA9:=aA (FA2.out.ext x9)
   have T9:=aA (TR.out.trans (Touch.of_ext x9))
   have Q9:=aA (QR.out.ext x9)
   have F9:=aA (FR.out.ext x9)
   clear x9 FA2 TR QR FR HC0 q0 q1 q2 q3 q4 q5 qz f0 f1 f2 fz XR zr
   go_upto_if 69 with(fail)
   go_cut [] (fun wx=>nJ w8 B gb n (oX W l (fx,fy)) wx)
   case first=>
    as_aux_lemma=>
     have q0:=Q9.out.at 0 rfl;have q1:=Q9.out.at 1 rfl;have q2:=Q9.out.at 2 rfl;have q3:=Q9.out.at 3 rfl;have q4:=Q9.out.at 4 rfl;have q5:=Q9.out.at 5 rfl;have qz:=Q9.out.lt
     have f0:=F9.out.at 0 rfl;have f1:=F9.out.at 1 rfl;have f2:=F9.out.at 2 rfl;have fz:=F9.out.lt
     by_cases h0:c0=0
     ·have f4:(c0 !=0)=false:=by simpa using h0
      have HX0:Hid (oX W l (fx,fy)=fun _=>aE):=aA (by rw[HFS.out,if_neg (fun h=>h h0)])
      clear h0 i1 i2 HFS
      go_wp2_with fail
      go_meet
      exact⟨by rw[HX0.out];exact FA9.out,T9.out⟩
     ·have f4:(c0 !=0)=true:=by simpa using h0
      have hs0:=(FA9.out.cell i0).1
      have hs1:=(FA9.out.cell i0).2
      have j1:(st:Int)<(n:Int):=by omega
      have zg:=FA9.out.lt.2
      have HX0:Hid (oX W l (fx,fy)=bG (fun _=>aE) st 0):=aA (by rw[HFS.out,if_pos h0])
      have HI0:=aA i0
      clear h0 HFS
      go_wp2_with fail
      go_meet
      exact⟨by rw[HX0.out];exact FA9.out.turn HI0.out 0,T9.out.setCell (p:=⟨gb,st,none⟩) (.inl rfl) _⟩
   case rest=>
    have FC:=aA hcut
    clear hcut FA9 T9 Q9 F9 i0 i1 i2 HFS
    have RN:=aA (aGq HG.out HIF.out HDF.out)
    rw[HN.out]at RN
    go_upto_block 2 with(fail)
    go_cut [] (fun wx=>nJ w8 B gb n D wx)
    case first=>
     as_aux_lemma=>
      go_wp2_with fail
      go_loopw [11] (fun i wr=> ∃(r:Nat) (far:Nat→Int),r≤n∧i= .int .i64 r∧Rnds D far (aC W (fx,fy)) n r∧BdT (r*1000) far∧nJ w8 B gb n far wr) (fun i _=>n-(intOf i).toNat)
      case atStart=>exact⟨0,_,by omega,rfl,RN.out,(aJx W l (fx,fy)).mono (Nat.zero_le _),FC.out⟩
      case round=>
       obtain⟨r,far,hrn,rfl,hR,hT,hfa⟩:=hrel
       clear RN FC
       have RR:=aA hR
       have BT:=aA hT
       have FA:=aA hfa
       clear hR hT hfa
       by_cases hlt:r<n
       ·go_wp2_with fail
        go_loopw [12,13] (fun t iv wy=> ∃(m:Nat) (bb:Bool),m≤n∧iv= .int .i64 m∧t= .bool bb∧(bb=false→ ∀v,eO W H s l far m v=far v)∧BdT (r*1000+m*4) (eO W H s l far m)∧nJ w8 B gb n (eO W H s l far m) wy) (fun _ iv _=>n-(intOf iv).toNat)
        case atStart=>exact⟨0,false,by omega,rfl,rfl,fun _ _=>rfl,BT.out.mono (by omega),FA.out⟩
        case round=>
         obtain⟨m,bb,hmn,rfl,rfl,hbF,hT,hfa⟩:=hrel
         have BF:=aA hbF
         have BT1:=aA hT
         have FA1:=aA hfa.1
         have TT:=aA hfa.2
         obtain⟨xr,zr⟩:=HW.out _ hfa.2
         have FR:=aA (F7.out.ext xr)
         clear hbF hT hfa xr FA
         by_cases hml:m<n
         ·obtain⟨F1,hF1⟩: ∃z,eO W H s l far m=z:=⟨_,rfl⟩
          have HF1:=aA hF1
          rw[hF1]at BF BT1 FA1
          have hiv:inB W H (vx W m) (vy W m)=true:=(fJ HG.out (v:=m) (by rw[HN.out];exact hml)).1
          have mb:=HMB.out
          have k1:(m:Int).tmod W=vx W m:=qA (by omega) (by omega) (by omega)
          have k2:IntKind.i64.wrap ((m:Int).tdiv W)=vy W m:=lB (by omega) (by omega) (by omega)
          have k2':IntKind.i64.wrap ((m:Int)/W)=vy W m:=by rw[←k2,Int.tdiv_eq_ediv_of_nonneg (by omega)]
          have hW0: ¬W=0:=by omega
          obtain⟨X,hX⟩: ∃z,vx W m=z:=⟨_,rfl⟩
          obtain⟨Y,hY⟩: ∃z,vy W m=z:=⟨_,rfl⟩
          have HCV:Hid (aD W m=(X,Y)):=aA (by unfold aD;rw[hX,hY])
          have HSD:Hid (∀k,sdC W m k=(X+aQ k,Y+aR k)):=aA (fun k=>by unfold sdC;rw[hX,hY])
          rw[hX,hY]at hiv
          rw[hX]at k1
          rw[hY]at k2 k2'
          have HV:=aA hiv
          have fc:=(FA1.out.cell hml).1
          have zg:=FA1.out.lt.2
          have j1:(m:Int)<(n:Int):=by omega
          obtain⟨fk,hfk⟩: ∃z,F1 m=z:=⟨_,rfl⟩
          have HFK:=aA hfk
          rw[hfk]at fc
          clear hF1 hfk hiv mb hX hY
          have f0:=FR.out.at 0 rfl;have f1:=FR.out.at 1 rfl;have f2:=FR.out.at 2 rfl;have fz:=FR.out.lt
          go_wp2_with fail
          refine wp_region_held_drew (S:=(fun W=>(∀b o,b<wr.heap.size→W.cell? ⟨b,o,none⟩=wr.cell? ⟨b,o,none⟩)∧Ext wr W)) (by kernel_rfl) (by first|with_reducible exact aM _|exact aG z_x) (fun hHeld=> ?_)
          (((refine wpAnyH_take (i:=0) (oi:= ?g80_o) (v:= ?g80_v) ?g80_hi (by kernel_rfl) (by kernel_rfl) (by kernel_rfl) ?g80_hq ?g80_hy (by assumption) ?g80_gr;(case g80_hi=>(simp only[z_0,z_2];rfl));(case g80_hq=>exact fun _ _ _ h=>h);(case g80_hy=>(refine Or.inl ⟨by rfl,?_⟩;intro w hSw;(try dsimp only at hSw);go_simp;try with_reducible rfl));try simp only[Act.put,z_3,z_4,z_5]));((refine wpAnyH_take (i:=1) (oi:= ?g81_o) (v:= ?g81_v) ?g81_hi (by kernel_rfl) (by kernel_rfl) (by kernel_rfl) ?g81_hq ?g81_hy (by assumption) ?g81_gr;(case g81_hi=>(simp only[z_0,z_1,z_2];rfl));(case g81_hq=>exact fun _ _ _ h=>h);(case g81_hy=>(refine Or.inl ⟨by rfl,?_⟩;intro w hSw;(try dsimp only at hSw);go_simp;try with_reducible rfl));try simp only[Act.put,z_3,z_4,z_5]));((refine wpAnyH_take (i:=2) (oi:= ?g82_o) (v:= ?g82_v) ?g82_hi (by kernel_rfl) (by kernel_rfl) (by kernel_rfl) ?g82_hq ?g82_hy (by assumption) ?g82_gr;(case g82_hi=>(simp only[z_0,z_1,z_2];rfl));(case g82_hq=>exact fun _ _ _ h=>h);(case g82_hy=>(refine Or.inl ⟨by rfl,?_⟩;intro w hSw;(try dsimp only at hSw);go_simp;try with_reducible rfl));try simp only[Act.put,z_3,z_4,z_5]));((refine wpAnyH_take (i:=3) (oi:= ?g83_o) (v:= ?g83_v) ?g83_hi (by kernel_rfl) (by kernel_rfl) (by kernel_rfl) ?g83_hq ?g83_hy (by assumption) ?g83_gr;(case g83_hi=>(simp only[z_0,z_1,z_2];rfl));(case g83_hq=>exact fun _ _ _ h=>h);(case g83_hy=>(refine Or.inl ⟨by rfl,?_⟩;intro w hSw;(try dsimp only at hSw);go_simp;try with_reducible rfl));try simp only[Act.put,z_3,z_4,z_5]));((refine wpAnyH_take (i:=4) (oi:= ?g84_o) (v:= ?g84_v) ?g84_hi (by kernel_rfl) (by kernel_rfl) (by kernel_rfl) ?g84_hq ?g84_hy (by assumption) ?g84_gr;(case g84_hi=>(simp only[z_0,z_1,z_2];rfl));(case g84_hq=>exact fun _ _ _ h=>h);(case g84_hy=>(refine Or.inl ⟨by rfl,?_⟩;intro w hSw;(try dsimp only at hSw);go_simp;try with_reducible rfl));try simp only[Act.put,z_3,z_4,z_5]));((refine wpAnyH_take (i:=5) (oi:= ?g85_o) (v:= ?g85_v) ?g85_hi (by kernel_rfl) (by kernel_rfl) (by kernel_rfl) ?g85_hq ?g85_hy (by assumption) ?g85_gr;(case g85_hi=>(simp only[z_0,z_1,z_2];rfl));(case g85_hq=>exact fun _ _ _ h=>h);(case g85_hy=>(refine Or.inl ⟨by rfl,?_⟩;intro w hSw;(try dsimp only at hSw);go_simp;try with_reducible rfl));try simp only[Act.put,z_3,z_4,z_5]));((refine wpAnyH_take (i:=6) (oi:= ?g86_o) (v:= ?g86_v) ?g86_hi (by kernel_rfl) (by kernel_rfl) (by kernel_rfl) ?g86_hq ?g86_hy (by assumption) ?g86_gr;(case g86_hi=>(simp only[z_0,z_1,z_2];rfl));(case g86_hq=>exact fun _ _ _ h=>h);(case g86_hy=>(refine Or.inl ⟨by rfl,?_⟩;intro w hSw;(try dsimp only at hSw);go_simp;try with_reducible rfl));try simp only[Act.put,z_3,z_4,z_5]));((refine wpAnyH_take (i:=7) (oi:= ?g87_o) (v:= ?g87_v) ?g87_hi (by kernel_rfl) (by kernel_rfl) (by kernel_rfl) ?g87_hq ?g87_hy (by assumption) ?g87_gr;(case g87_hi=>(simp only[z_0,z_1,z_2];rfl));(case g87_hq=>exact fun _ _ _ h=>h);(case g87_hy=>(refine Or.inl ⟨by rfl,?_⟩;intro w hSw;(try dsimp only at hSw);go_simp;try with_reducible rfl));try simp only[Act.put,z_3,z_4,z_5]));((refine wpAnyH_take (i:=8) (oi:= ?g88_o) (v:= ?g88_v) ?g88_hi (by kernel_rfl) (by kernel_rfl) (by kernel_rfl) ?g88_hq ?g88_hy (by assumption) ?g88_gr;(case g88_hi=>(simp only[z_0,z_1,z_2];rfl));(case g88_hq=>exact fun _ _ _ h=>h);(case g88_hy=>(refine Or.inl ⟨by rfl,?_⟩;intro w hSw;(try dsimp only at hSw);go_simp;try with_reducible rfl));try simp only[Act.put,z_3,z_4,z_5]));((refine wpAnyH_take (i:=9) (oi:= ?g89_o) (v:= ?g89_v) ?g89_hi (by kernel_rfl) (by kernel_rfl) (by kernel_rfl) ?g89_hq ?g89_hy (by assumption) ?g89_gr;(case g89_hi=>(simp only[z_0,z_1,z_2];rfl));(case g89_hq=>exact fun _ _ _ h=>h);(case g89_hy=>(refine Or.inl ⟨by rfl,?_⟩;intro w hSw;(try dsimp only at hSw);go_simp;try with_reducible rfl));try simp only[Act.put,z_3,z_4,z_5]));((refine wpAnyH_take (i:=10) (oi:= ?g90_o) (v:= ?g90_v) ?g90_hi (by kernel_rfl) (by kernel_rfl) (by kernel_rfl) ?g90_hq ?g90_hy (by assumption) ?g90_gr;(case g90_hi=>(simp only[z_0,z_1,z_2];rfl));(case g90_hq=>exact fun _ _ _ h=>h);(case g90_hy=>(refine Or.inl ⟨by rfl,?_⟩;intro w hSw;(try dsimp only at hSw);go_simp;try with_reducible rfl));try simp only[Act.put,z_3,z_4,z_5])))
          (refine wpAnyH_ready (rs:=[11]) (by kernel_rfl) (by simp) ?_;refine AllReadyH.cons (o:= ?g91_o) ?g91_hi (fun K hK=> ?_) AllReadyH.nil;(case g91_hi=>(simp only[z_0,z_1,z_2];rfl));go_simp;refine hK.out _ _ (aG z_x) (fun hHeld=> ?_);clear hK K;try simp only[Act.put,z_3,z_4,z_5])
          (refine wpAnyH_ready (rs:=[12]) (by kernel_rfl) (by simp) ?_;refine AllReadyH.cons (o:= ?g92_o) ?g92_hi (fun K hK=> ?_) AllReadyH.nil;(case g92_hi=>(simp only[z_0,z_1,z_2];rfl));go_simp;refine hK.out _ _ (aG z_x) (fun hHeld=> ?_);clear hK K;try simp only[Act.put,z_3,z_4,z_5])
          refine wpAnyH_done (by kernel_rfl) ?_ _
          obtain⟨wq,hwq⟩: ∃wq,wq=(wr.alloc (.cells #[.int .i64 X, .int .i64 Y] 28)).drew:=⟨_,rfl⟩
          have hxq:Ext wr wq:=by rw[hwq];exact((Ext.refl _).alloc _).drew
          have C6:=aA (show Blk wq wr.heap.size 28 #[.int .i64 X, .int .i64 Y] by rw[hwq];exact(Blk.new_ rfl).drew)
          rw[←hwq]
          clear hwq hHeld f0 f1 f2 fz k1 k2 k2' hW0
          obtain⟨cb,hcb⟩: ∃z,wr.heap.size=z:=⟨_,rfl⟩
          have hcg:cb≠gb:=by rw[←hcb];omega
          rw[hcb]at C6⊢
          have FA6:=aA (FA1.out.ext hxq)
          have T6:=aA (TT.out.trans (Touch.of_ext hxq))
          have fc6:=(hxq.cell (p:=⟨gb,m,none⟩) zg).trans fc
          have zg6:gb<wq.heap.size:=FA6.out.lt.2
          clear hcb hxq fc FA1 TT zg FR zr
          by_cases hf0:fk=18446744073709551615
          ·subst hf0
           have HSM:Hid (eO W H s l far (m+1)=F1):=aA (by
            show iM W H s l (eO W H s l far m) m=F1
            rw[HF1.out]
            unfold iM
            rw[if_pos (show F1 m=aE from HFK.out)])
           go_wp2_with fail
           go_roundw
           case rel=>exact⟨m+1,bb,by omega,by go_num,rfl,by rw[HSM.out];exact BF.out,by rw[HSM.out];exact BT1.out.mono (by omega),by rw[HSM.out];exact⟨FA6.out,T6.out⟩⟩
           case measure=>simp[intOf];omega
          ·have hfb:(fk==18446744073709551615)=false:=by simpa using hf0
           have HNX:Hid (eO W H s l far (m+1)=cH W H s l F1 m 4):=aA (by
            show iM W H s l (eO W H s l far m) m=_
            rw[HF1.out]
            unfold iM
            rw[if_neg (show ¬F1 m=aE by rw[HFK.out];exact hf0)])
           have HF1I:Hid (F1 m<aE):=aA (by
            have h1:=(BT1.out m).2.1
            have e:aE=18446744073709551615:=rfl
            rw[HFK.out]at h1⊢
            omega)
           clear hf0
           go_wp2_with fail
           go_loopw [12,15] (fun t dv wd=> ∃(k:Nat) (b3:Bool),k≤4∧dv= .int .i64 k∧t= .bool b3∧(b3=false→ ∀v,cH W H s l F1 m k v=far v)∧BdT (r*1000+m*4+k) (cH W H s l F1 m k)∧FarAt wd B gb n (cH W H s l F1 m k) n∧Touch (fun k=>k=gb) wq wd) (fun _ dv _=>4-(intOf dv).toNat)
           case atStart=>exact⟨0,bb,by omega,rfl,rfl,BF.out,BT1.out.mono (Nat.le_add_right _ _),FA6.out,Touch.refl _ _⟩
           case round=>
            obtain⟨k,b3,hk,rfl,rfl,hbF,hT,hfa,htt⟩:=hrel
            have BF3:=aA hbF
            have BT3:=aA hT
            have FAd:=aA hfa
            have TD:=aA htt
            have TT:=aA (T6.out.trans htt)
            obtain⟨xr,zr⟩:=HW.out _ TT.out
            have XR:=aA xr
            have CR:=aA (C6.out.touch htt hcg)
            clear hbF hT hfa htt xr fc6 zg6 FA6 T6
            by_cases hk4:k<4
            ·as_aux_lemma=>
              obtain⟨F3,hF3⟩: ∃z,cH W H s l F1 m k=z:=⟨_,rfl⟩
              have HF3:=aA hF3
              rw[hF3]at BF3 BT3 FAd
              have H3I:Hid (F3 m<aE):=aA (by rw[←hF3];exact Int.lt_of_le_of_lt (jA F1 m m k) HF1I.out)
              have hvb:=inB_true.1 HV.out
              have hsd:=aIr hk4 X Y
              have hdb:=rZ k
              have S1:=aA (fun w'=>aFz X Y (k:Int) w' (by omega) (by omega))
              rw[hsd.1,hsd.2]at S1
              have hsk:=HSD.out k
              obtain⟨P,hP⟩: ∃z,X+aQ k=z:=⟨_,rfl⟩
              obtain⟨Q,hQ⟩: ∃z,Y+aR k=z:=⟨_,rfl⟩
              have HPQ:=aA (And.intro hP hQ)
              rw[hP,hQ]at S1 hsk
              have HSK:=aA hsk
              have u0:=CR.out.at 0 rfl;have u1:=CR.out.at 1 rfl;have uz:=CR.out.lt
              clear hF3 hsd hdb hP hQ hsk hvb
              go_wp2_with fail
              refine(S1.out _).mono ?_
              rintro e wa ⟨rfl,xa⟩
              go_upto_region 28 with(fail)
              obtain⟨wm,hwm⟩: ∃z,z=wa.alloc (.cells #[.int .i64 P, .int .i64 Q] 28):=⟨_,rfl⟩
              have xam:Ext wa wm:=by rw[hwm];exact(Ext.refl _).alloc _
              have M8:=aA (show Blk wm wa.heap.size 28 #[.int .i64 P, .int .i64 Q] by rw[hwm];exact Blk.new_ rfl)
              have XRM:=aA (xa.trans xam)
              have hmg:wa.heap.size≠gb:=by have:=xa.size;omega
              rw[←hwm]
              obtain⟨mm,hmm⟩: ∃z,wa.heap.size=z:=⟨_,rfl⟩
              rw[hmm]at M8 hmg⊢
              have FA8:=aA (FAd.out.ext XRM.out)
              have TD8:=aA (TD.out.trans (Touch.of_ext XRM.out))
              have XM:=aA (XR.out.trans XRM.out)
              have C8:=aA (CR.out.ext XRM.out)
              have FM:=aA (F7.out.ext XM.out)
              have HMG:=aA hmg
              have HIP:=aA (fun w'=>HI.out w' P Q)
              have END0:Hid (eT W H s l F3 m k=F3→ ∀w',Ext wm w'→ ∃(k':Nat) (b3':Bool),k'≤4∧Value.int .i64 ((k:Int)+1)= .int .i64 k'∧Value.bool b3= .bool b3'∧(b3'=false→ ∀v,cH W H s l F1 m k' v=far v)∧BdT (r*1000+m*4+k') (cH W H s l F1 m k')∧FarAt w' B gb n (cH W H s l F1 m k') n∧Touch (fun k=>k=gb) wq w'):=aA (fun hs w' hx=>by
               have e:cH W H s l F1 m (k+1)=F3:=by
                show eT W H s l (cH W H s l F1 m k) m k=F3
                rw[HF3.out];exact hs
               refine⟨k+1,b3,hk4,by go_num,rfl,?_,?_,?_,TD8.out.trans (Touch.of_ext hx)⟩
               ·rw[e];exact BF3.out
               ·rw[e];exact BT3.out.mono (by omega)
               ·rw[e];exact FA8.out.ext hx)
              clear xa xam hwm hmm hmg u0 u1 uz FAd TD TT CR XRM S1 zr XR
              have f0:=FM.out.at 0 rfl;have f1:=FM.out.at 1 rfl;have f2:=FM.out.at 2 rfl;have fz:=FM.out.lt
              have v0:=M8.out.at 0 rfl;have v1:=M8.out.at 1 rfl;have vz:=M8.out.lt
              cases hbq:inB W H P Q
              ·rw[hbq]at HIP
               have HSM:=aA (END0.out (by
                unfold eT
                rw[if_neg (fun h=>by
                 have h1:inB W H P Q=true:=by have:=h.1;rw[HSK.out]at this;exact this
                 rw[hbq]at h1
                 cases h1)]))
               clear hbq END0
               go_wp2_with fail
               refine(HIP.out _).mono ?_
               rintro e wb ⟨rfl,xb⟩
               have XB:=aA xb
               clear xb f0 f1 f2 fz v0 v1 vz
               go_wp2_with fail
               go_roundw
               case rel=>exact HSM.out _ XB.out
               case measure=>simp[intOf];omega
              ·rw[hbq]at HIP
               have HBQ:=aA hbq
               have HCM:=aA (fun(w':World) (x:Ext wm w')=>HCO.out w' (X7.out.trans (XM.out.trans x)) P Q HBQ.out)
               obtain⟨i0,i1,i2⟩:=HIX.out _ _ HBQ.out
               have HMU:Hid (m≠aC W (P,Q)):=aA (fun e=>by
                have h1:=aW (W:=W) (H:=H) (c:=(P,Q)) HBQ.out
                rw[←e,HCV.out]at h1
                injection h1 with h1 h2
                obtain⟨a1,a2⟩:=HPQ.out
                obtain rfl|rfl|rfl|rfl:k=0∨k=1∨k=2∨k=3:=by omega
                all_goals (simp only[aQ,aR]at a1 a2;omega))
               have HREL:Hid (eT W H s l F3 m k=if aH l W (P,Q)≠0∧F3 m+aH l W (P,Q)<F3 (aC W (P,Q))∧dO W s (aI W H s l) (X,Y) (P,Q)=true then bG F3 (aC W (P,Q)) (F3 m+aH l W (P,Q)) else F3):=aA (by
                unfold eT
                rw[HSK.out,HCV.out]
                simp only[hbq,true_and])
               have hsum:=BdT.sum (W:=W) HU.out BT3.out (by omega) (u:=m) (by have:=H3I.out;omega) P Q
               have hcb:=bI HU.out W (P,Q)
               obtain⟨cst,hcst⟩: ∃z,aH l W (P,Q)=z:=⟨_,rfl⟩
               obtain⟨u,hu⟩: ∃z,aC W (P,Q)=z:=⟨_,rfl⟩
               rw[hcst]at HCM HREL hsum hcb
               rw[hu]at i0 i2 HMU HREL
               have HSU:=aA hsum
               have HCB:=aA hcb
               have HUN:=aA i0
               clear hcst hu hbq hsum hcb
               by_cases hc0:cst=0
               ·subst hc0
                have HSM:=aA (END0.out (by rw[HREL.out,if_neg (fun h=>h.1 rfl)]))
                clear END0 HREL i0 i1 i2
                go_wp2_with fail
                refine(HIP.out _).mono ?_
                rintro e wb ⟨rfl,xb⟩
                have XB:=aA xb
                have FB:=aA (FM.out.ext xb)
                have VB:=aA (M8.out.ext xb)
                clear xb f0 f1 f2 fz v0 v1 vz
                have f0:=FB.out.at 0 rfl;have f1:=FB.out.at 1 rfl;have f2:=FB.out.at 2 rfl;have fz:=FB.out.lt
                have v0:=VB.out.at 0 rfl;have v1:=VB.out.at 1 rfl;have vz:=VB.out.lt
                go_wp2_with fail
                refine(HCM.out _ XB.out).mono ?_
                rintro e wn ⟨rfl,xn⟩
                have XN:=aA (XB.out.trans xn)
                clear xn f0 f1 f2 fz v0 v1 vz
                go_wp2_with fail
                go_roundw
                case rel=>exact HSM.out _ XN.out
                case measure=>simp[intOf];omega
               ·have hcn:(cst==0)=false:=by simpa using hc0
                have HC0:=aA hc0
                clear hc0
                go_wp2_with fail
                refine(HIP.out _).mono ?_
                rintro e wb ⟨rfl,xb⟩
                have XB:=aA xb
                have FB:=aA (FM.out.ext xb)
                have VB:=aA (M8.out.ext xb)
                clear xb f0 f1 f2 fz v0 v1 vz
                have f0:=FB.out.at 0 rfl;have f1:=FB.out.at 1 rfl;have f2:=FB.out.at 2 rfl;have fz:=FB.out.lt
                have v0:=VB.out.at 0 rfl;have v1:=VB.out.at 1 rfl;have vz:=VB.out.lt
                go_wp2_with fail
                refine(HCM.out _ XB.out).mono ?_
                rintro e wn ⟨rfl,xn⟩
                have XN:=aA (XB.out.trans xn)
                have XW:=aA (XM.out.trans XN.out)
                have FN:=aA (F7.out.ext XW.out)
                have VN:=aA (M8.out.ext XN.out)
                have UN:=aA (C8.out.ext XN.out)
                have PN:=aA (P7.out.ext XW.out)
                have FAN:=aA (FA8.out.ext XN.out)
                clear xn f0 f1 f2 fz v0 v1 vz FB VB
                have f0:=FN.out.at 0 rfl;have f1:=FN.out.at 1 rfl;have f2:=FN.out.at 2 rfl;have fz:=FN.out.lt
                have v0:=VN.out.at 0 rfl;have v1:=VN.out.at 1 rfl;have vz:=VN.out.lt
                have y0:=UN.out.at 0 rfl;have y1:=UN.out.at 1 rfl;have yz:=UN.out.lt
                have p0:=PN.out.at 0 rfl;have p1:=PN.out.at 1 rfl;have p2:=PN.out.at 2 rfl;have pz:=PN.out.lt
                have hmn2:m<n:=hml
                have fu:=(FAN.out.cell i0).1
                have fm:=(FAN.out.cell hmn2).1
                have hgw:=FAN.out.lt.2
                obtain⟨uu,huu⟩: ∃z,F3 m=z:=⟨_,rfl⟩
                obtain⟨vv,hvv⟩: ∃z,F3 u=z:=⟨_,rfl⟩
                have hsum:=HSU.out
                have hcb:=HCB.out
                have hu0:=(BT3.out m).1
                rw[huu]at fm hsum hu0 HREL
                rw[hvv]at fu HREL
                have k5:IntKind.u64.wrap (uu+cst)=uu+cst:=by rw[IntKind.wrap_u64];omega
                have j2:(u:Int)<(n:Int):=by omega
                clear huu hvv hsum hcb hu0
                by_cases hless:uu+cst<vv
                ·have hl:decide (uu+cst<vv)=true:=by simpa using hless
                 have HCZ:=aA (fun(w':World) (x:Ext wn w')=>HCX.out w' (XW.out.trans x) X Y P Q HV.out HBQ.out)
                 have HLS:=aA hless
                 obtain⟨cr,hcr⟩: ∃z,dO W s (aI W H s l) (X,Y) (P,Q)=z:=⟨_,rfl⟩
                 rw[hcr]at HREL HCZ
                 clear hcr hless
                 cases cr
                 ·have HSM:=aA (END0.out (by rw[HREL.out,if_neg (fun h=>by have:=h.2.2;cases this)]))
                  clear END0 HREL
                  go_wp2_with fail
                  refine aJ (S:=(fun W=>(∀b o,b<wn.heap.size→W.cell? ⟨b,o,none⟩=wn.cell? ⟨b,o,none⟩)∧Ext wn W)) [(0,true),(1,true),(2,true),(3,true),(4,true),(5,true),(8,true),(9,true),(10,true),(11,true),(6,false),(7,true),(12,true),(13,true),(14,true),(15,true),(16,true),(17,true),(18,false),(19,true)] (by kernel_rfl) (by kernel_rfl) (by kernel_rfl) (by decide) (fun _ _ d _ _ h=>by cases d<;>exact h) (by first|with_reducible exact aM _|exact aG z_x) (fun hHeld=> ?_)
                  iterate 10 (refine SeqH.fr1 ?_;try simp only[Act.put,z_3,z_4,z_5])
                  (apply SeqH.step;(·(simp only[z_0,z_1,z_2];rfl));intro K hK;go_simp;refine(HCM.out _ (XN.out.trans z_x)).mono ?_;rintro e wo ⟨rfl,xo⟩;go_wp2_with fail;refine hK.out _ _ (aG z_x) (fun hHeld=> ?_);clear hK K;try simp only[Act.put,z_3,z_4,z_5])
                  iterate 7 (refine SeqH.fr1 ?_;try simp only[Act.put,z_3,z_4,z_5])
                  (apply SeqH.step;(·(simp only[z_0,z_1,z_2];rfl));intro K hK;go_simp;refine(HCZ.out _ z_x).mono ?_;rintro e wp ⟨rfl,xp⟩;go_wp2_with fail;refine hK.out _ _ (aG z_x) (fun hHeld=> ?_);clear hK K;try simp only[Act.put,z_3,z_4,z_5])
                  iterate 1 (refine SeqH.fr1 ?_;try simp only[Act.put,z_3,z_4,z_5])
                  refine SeqH.done ?_
                  have XE:=aA (XN.out.trans hHeld.2)
                  clear hHeld
                  go_wp2_with fail
                  go_roundw
                  case rel=>exact HSM.out _ XE.out
                  case measure=>simp[intOf];omega
                 ·have REL:Hid (∀w',Ext wm w'→ ∃(k':Nat) (b3':Bool),k'≤4∧Value.int .i64 ((k:Int)+1)= .int .i64 k'∧Value.bool true= .bool b3'∧(b3'=false→ ∀v,cH W H s l F1 m k' v=far v)∧BdT (r*1000+m*4+k') (cH W H s l F1 m k')∧FarAt (w'.setCell ⟨gb,u,none⟩ (.int .u64 (uu+cst))) B gb n (cH W H s l F1 m k') n∧Touch (fun k=>k=gb) wq (w'.setCell ⟨gb,u,none⟩ (.int .u64 (uu+cst)))):=aA (fun w' hx=>by
                   have e0:cH W H s l F1 m (k+1)=eT W H s l F3 m k:=by
                    show eT W H s l (cH W H s l F1 m k) m k=_
                    rw[HF3.out]
                   have e:cH W H s l F1 m (k+1)=bG F3 u (uu+cst):=by
                    rw[e0,HREL.out,if_pos ⟨HC0.out,HLS.out,rfl⟩]
                   refine⟨k+1,true,hk4,by go_num,rfl,fun h=>(by cases h),?_,?_,?_⟩
                   ·rw[e0];exact(BdT.push HU.out BT3.out (by omega) (by have:=H3I.out;omega) k).mono (by omega)
                   ·rw[e];exact(FA8.out.ext hx).turn HUN.out _
                   ·exact(TD8.out.trans (Touch.of_ext hx)).setCell (p:=⟨gb,u,none⟩) (.inl rfl) _)
                  have L8:Hid (CellsAt [(⟨fb,0,none⟩, .int .i64 W),(⟨fb,1,none⟩, .int .i64 H),(⟨fb,2,none⟩, .slice a n c),(⟨mm,0,none⟩, .int .i64 P),(⟨mm,1,none⟩, .int .i64 Q),(⟨gb,m,none⟩, .int .u64 uu)] wn):=aA ⟨f0,f1,f2,v0,v1,fm,trivial⟩
                  have HNE:Hid (∀p∈([(⟨fb,0,none⟩, .int .i64 W),(⟨fb,1,none⟩, .int .i64 H),(⟨fb,2,none⟩, .slice a n c),(⟨mm,0,none⟩, .int .i64 P),(⟨mm,1,none⟩, .int .i64 Q),(⟨gb,m,none⟩, .int .u64 uu)]:List (Addr×Value)),p.1≠⟨gb,u,none⟩):=aA (by
                   have h1:=HGB.out
                   have h2:=HMG.out
                   have h3:=HMU.out
                   intro p hp e
                   simp only[List.mem_cons,List.not_mem_nil,or_false]at hp
                   rcases hp with rfl|rfl|rfl|rfl|rfl|rfl
                   all_goals (simp only[Addr.mk.injEq]at e;omega))
                  clear END0 HREL
                  go_wp2_with fail
                  refine aJ (S:=(fun W=>(∀b o,b<wn.heap.size→W.cell? ⟨b,o,none⟩=wn.cell? ⟨b,o,none⟩)∧Ext wn W)) [(0,true),(1,true),(2,true),(3,true),(4,true),(5,true),(8,true),(9,true),(10,true),(11,true),(6,false),(7,true),(12,true),(13,true),(14,true),(15,true),(16,true),(17,true),(18,false),(19,true)] (by kernel_rfl) (by kernel_rfl) (by kernel_rfl) (by decide) (fun _ _ d _ _ h=>by cases d<;>exact h) (by first|with_reducible exact aM _|exact aG z_x) (fun hHeld=> ?_)
                  iterate 10 (refine SeqH.fr1 ?_;try simp only[Act.put,z_3,z_4,z_5])
                  (apply SeqH.step;(·(simp only[z_0,z_1,z_2];rfl));intro K hK;go_simp;refine(HCM.out _ (XN.out.trans z_x)).mono ?_;rintro e wo ⟨rfl,xo⟩;go_wp2_with fail;refine hK.out _ _ (aG z_x) (fun hHeld=> ?_);clear hK K;try simp only[Act.put,z_3,z_4,z_5])
                  iterate 7 (refine SeqH.fr1 ?_;try simp only[Act.put,z_3,z_4,z_5])
                  (apply SeqH.step;(·(simp only[z_0,z_1,z_2];rfl));intro K hK;go_simp;refine(HCZ.out _ z_x).mono ?_;rintro e wp ⟨rfl,xp⟩;go_wp2_with fail;refine hK.out _ _ (aG z_x) (fun hHeld=> ?_);clear hK K;try simp only[Act.put,z_3,z_4,z_5])
                  iterate 1 (refine SeqH.fr1 ?_;try simp only[Act.put,z_3,z_4,z_5])
                  refine SeqH.done ?_
                  have XP:=aA hHeld.2
                  have L10:=aA (L8.out.ext XP.out)
                  clear hHeld xo xp f0 f1 f2 fz v0 v1 vz y0 y1 yz p0 p1 p2 pz fu fm hgw
                  go_wp2_with fail
                  refine aJ (S:=(CellsAt [(⟨fb,0,none⟩, .int .i64 W),(⟨fb,1,none⟩, .int .i64 H),(⟨fb,2,none⟩, .slice a n c),(⟨mm,0,none⟩, .int .i64 P),(⟨mm,1,none⟩, .int .i64 Q),(⟨gb,m,none⟩, .int .u64 uu)])) [(0,true),(1,true),(2,true),(3,true),(4,true),(5,true),(6,true),(7,true),(8,false),(9,true),(10,true),(11,false)] (by kernel_rfl) (by kernel_rfl) (by kernel_rfl) (by decide) (fun _ _ d _ _ h=>by cases d<;>exact h) (CellsAt.ext ((Ext.refl _).drew) L10.out) (fun hHeld=> ?_)
                  iterate 8 (refine SeqH.fr2 ?_;try simp only[Act.put,z_3,z_4,z_5])
                  (apply SeqH.step;(·(simp only[z_0,z_1,z_2];rfl));intro K hK;go_simp;refine(HCM.out _ (XN.out.trans (XP.out.trans z_x))).mono ?_;rintro e wo2 ⟨rfl,xo2⟩;have hx12:Ext wn wo2:=XP.out.trans z_x;have L11:=aA (L8.out.ext hx12);have HX12:=aA (XN.out.trans hx12);have f11:=(FAN.out.ext hx12).cell HUN.out;have fv1:=f11.1;have fv2:=f11.2;clear f11 hx12;go_wp2_with fail;refine hK.out _ _ (L11.out) (fun hHeld=> ?_);clear hK K;try simp only[Act.put,z_3,z_4,z_5])
                  iterate 2 (refine SeqH.fr2 ?_;try simp only[Act.put,z_3,z_4,z_5])
                  (apply SeqH.step;(·(simp only[z_0,z_1,z_2];rfl));intro K hK;go_simp;refine hK.out _ _ (CellsAt.set HNE.out L11.out) (fun hHeld=> ?_);clear hK K;try simp only[Act.put,z_3,z_4,z_5])
                  refine SeqH.done ?_
                  clear hHeld fv1 fv2 xo2
                  go_wp2_with fail
                  go_roundw
                  case rel=>exact REL.out _ HX12.out
                  case measure=>simp[intOf];omega
                ·have hl:decide (uu+cst<vv)=false:=by simpa using hless
                 have HSM:=aA (END0.out (by rw[HREL.out,if_neg (fun h=>hless h.2.1)]))
                 clear END0 HREL hless
                 go_wp2_with fail
                 refine aJ (S:=(fun W=>(∀b o,b<wn.heap.size→W.cell? ⟨b,o,none⟩=wn.cell? ⟨b,o,none⟩)∧Ext wn W)) [(0,true),(1,true),(2,true),(3,true),(4,true),(5,true),(8,true),(9,true),(10,true),(11,true),(6,false),(7,true),(12,true),(13,true),(14,true),(15,true),(16,true),(17,true),(18,true),(19,true)] (by kernel_rfl) (by kernel_rfl) (by kernel_rfl) (by decide) (fun _ _ d _ _ h=>by cases d<;>exact h) (by first|with_reducible exact aM _|exact aG z_x) (fun hHeld=> ?_)
                 iterate 10 (refine SeqH.fr1 ?_;try simp only[Act.put,z_3,z_4,z_5])
                 (apply SeqH.step;(·(simp only[z_0,z_1,z_2];rfl));intro K hK;go_simp;refine(HCM.out _ (XN.out.trans z_x)).mono ?_;rintro e wo ⟨rfl,xo⟩;go_wp2_with fail;refine hK.out _ _ (aG z_x) (fun hHeld=> ?_);clear hK K;try simp only[Act.put,z_3,z_4,z_5])
                 iterate 9 (refine SeqH.fr1 ?_;try simp only[Act.put,z_3,z_4,z_5])
                 refine SeqH.done ?_
                 have XE:=aA (XN.out.trans hHeld.2)
                 clear hHeld
                 go_wp2_with fail
                 go_roundw
                 case rel=>exact HSM.out _ XE.out
                 case measure=>simp[intOf];omega
            ·obtain rfl:k=4:=by omega
             go_wp2_with fail
             go_roundw
             case rel=>exact⟨m+1,b3,by omega,by go_num,rfl,by rw[HNX.out];exact BF3.out,by rw[HNX.out];exact BT3.out.mono (by omega),by rw[HNX.out];exact⟨FAd.out,TT.out⟩⟩
             case measure=>simp[intOf];omega
         ·have hmn2:m=n:=by omega
          have HNX:Hid (eO W H s l far m=iR W H s l far):=aA (by unfold iR;rw[HN.out,hmn2])
          have hm150:m*4≤1000:=by omega
          clear hmn2
          cases bb
          ·have hD:=aGr HG.out HDF.out (far:=far) (r:=r) (by rw[HN.out];exact RR.out) (fun v=>by rw[←HNX.out];exact BF.out rfl v)
           have HE:Hid (nJ w8 B gb n D wr):=aA ⟨FA1.out.congr (fun v _=>(BF.out rfl v).trans (hD v)),TT.out⟩
           clear hD
           go_wp2_with fail
           go_meet
           exact HE.out
          ·have RN:=aA (aIu HG.out HDF.out (far:=far) (r:=r) (by rw[HN.out];exact RR.out))
           rw[HN.out]at RN
           have REL:Hid (Rnds D (iR W H s l far) (aC W (fx,fy)) n (r+1)∧BdT ((r+1)*1000) (iR W H s l far)∧nJ w8 B gb n (iR W H s l far) wr):=aA ⟨RN.out,by rw[←HNX.out];exact BT1.out.mono (by omega),by rw[←HNX.out];exact⟨FA1.out,TT.out⟩⟩
           clear RN
           go_wp2_with fail
           go_roundw
           case rel=>exact⟨r+1,_,hlt,by go_num,REL.out.1,REL.out.2.1,REL.out.2.2⟩
           case measure=>simp[intOf];omega
       ·obtain rfl:r=n:=by omega
        have HE:Hid (nJ w8 B gb r D wr):=aA ⟨FA.out.1.congr (fun v _=>RR.out.full v),FA.out.2⟩
        go_wp2_with fail
        go_meet
        exact HE.out
    case rest=>
     as_aux_lemma=>
      obtain⟨hfa,htt⟩:=hcut
      obtain⟨xr,zr⟩:=HW.out _ htt
      have XC:=aA xr
      have FAC:=aA hfa
      have QC:=aA (Q7.out.ext xr)
      have FC2:=aA (F7.out.ext xr)
      clear hfa htt xr zr RN FC
      have q0:=QC.out.at 0 rfl;have q1:=QC.out.at 1 rfl;have q2:=QC.out.at 2 rfl;have q3:=QC.out.at 3 rfl;have q4:=QC.out.at 4 rfl;have q5:=QC.out.at 5 rfl;have qz:=QC.out.lt
      have f0:=FC2.out.at 0 rfl;have f1:=FC2.out.at 1 rfl;have f2:=FC2.out.at 2 rfl;have fz:=FC2.out.lt
      go_wp2_with fail
      refine(HFB.out _ (X47.out.trans XC.out) _).mono ?_
      rintro e w9 ⟨x9,p1,c1,k1,e1,v1,hs1,rfl,ho1⟩
      have HTT:=aA (HTL.out _ _ _ _ hs1)
      have HLEN:=aA (sF hs1)
      have O9:=aA ho1
      obtain⟨va,vc,rfl⟩:=ho1.slice
      have hcap:=aC1 ho1
      obtain⟨m1,hm1⟩: ∃z,p1.length=z:=⟨_,rfl⟩
      have HM1:=aA hm1
      rw[hm1]at hcap HLEN O9⊢
      have HCAP:=aA hcap
      clear hs1 ho1 hm1 hcap
      go_upto_region 35 with(fail)
      obtain⟨wd,hwd⟩: ∃z,z=w9.alloc (.cells #[.slice va m1 vc, .int .u64 c1, .int .i64 k1] 40):=⟨_,rfl⟩
      have x9d:Ext w9 wd:=by rw[hwd];exact(Ext.refl _).alloc _
      have RD:=aA (show Blk wd w9.heap.size 40 #[.slice va m1 vc, .int .u64 c1, .int .i64 k1] by rw[hwd];exact Blk.new_ rfl)
      rw[←hwd]
      obtain⟨rb,hrb⟩: ∃z,w9.heap.size=z:=⟨_,rfl⟩
      rw[hrb]at RD⊢
      have XD:=aA ((XC.out.trans x9).trans x9d)
      have FAD:=aA (FAC.out.ext (x9.trans x9d))
      have OD:=aA (O9.out.ext x9d)
      have QD:=aA (Q7.out.ext XD.out)
      have FD:=aA (F7.out.ext XD.out)
      clear hwd x9d hrb x9 O9 FAC QC FC2 XC q0 q1 q2 q3 q4 q5 qz f0 f1 f2 fz
      obtain⟨i0,i1,i2⟩:=HIX.out _ _ HIT.out
      obtain⟨ti,hti⟩: ∃z,aC W (tx,ty)=z:=⟨_,rfl⟩
      rw[hti]at i0 i2 HTT
      have fc:=(FAD.out.cell i0).1
      have zg:=FAD.out.lt.2
      have j1:(ti:Int)<(n:Int):=by omega
      obtain⟨dt,hdt⟩: ∃z,D ti=z:=⟨_,rfl⟩
      rw[hdt]at fc HTT
      clear hti hdt
      have q0:=QD.out.at 0 rfl;have q1:=QD.out.at 1 rfl;have q2:=QD.out.at 2 rfl;have q3:=QD.out.at 3 rfl;have q4:=QD.out.at 4 rfl;have q5:=QD.out.at 5 rfl;have qz:=QD.out.lt
      have f0:=FD.out.at 0 rfl;have f1:=FD.out.at 1 rfl;have f2:=FD.out.at 2 rfl;have fz:=FD.out.lt
      have r0:=RD.out.at 0 rfl;have r1:=RD.out.at 1 rfl;have r2:=RD.out.at 2 rfl;have rz:=RD.out.lt
      rcases HTT.out with⟨h1,h2,h3,h4⟩|⟨h1,h2,h3,hgp,hsum,hp0,hpl,hcr⟩
      ·obtain rfl:dt=18446744073709551615:=h1
       subst h2
       subst h3
       subst h4
       obtain rfl:m1=0:=HM1.out.symm
       clear HTT OD HLEN
       go_wp2_with (go_at_call 10;refine(cY _).mono ?_;rintro e wz ⟨rfl,xz⟩;have XZ:=aA (XD.out.trans xz);clear xz)
       go_ret
       exact⟨rfl,X7.out.trans XZ.out⟩
      ·have f4:(dt==18446744073709551615)=false:=by rw[beq_eq_false_iff_ne];exact h1
       subst h2
       subst h3
       obtain⟨rg,vc',hva,_,_⟩:=aI8 OD.out hgp.pos
       obtain rfl:va=some ⟨rg,0,none⟩:=by injection hva
       obtain⟨P,hP⟩: ∃z,p1.length=z+1:=⟨p1.length-1,by have:=hgp.pos;omega⟩
       obtain rfl:m1=P+1:=by rw[←HM1.out,hP]
       rw[hP,Nat.add_sub_cancel]at hpl
       have HRTT:=aA (HRT.out wd (X7.out.trans XD.out) (some ⟨rg,0,none⟩) p1 vc (Reads.rowC (n:=P+1) (c:=vc) OD.out.reads).2 (by rw[HM1.out];exact HCAP.out) hgp)
       rw[hsum,HM1.out]at HRTT
       have HP0:=aA hp0
       have HPL:=aA hpl
       have HCRR:=aA hcr
       have HGPI:=aA (fun(k:Nat) (y:aB) (hk:p1[k]? =some y)=>(by
        obtain⟨h,e⟩:=List.getElem?_eq_some_iff.1 hk
        have:=(hgp.on k h).1
        rw[List.getD_eq_getElem?_getD,hk,Option.getD_some]at this
        exact this:inB W H y.1 y.2=true))
       clear h1 hgp hsum hp0 hpl hcr hP hva HTT
       go_wp2_with fail
       refine HRTT.out.mono ?_
       rintro e we ⟨rfl,xe⟩
       have RE:=aA (RD.out.ext xe)
       have QE:=aA (QD.out.ext xe)
       have OE:=aA (OD.out.ext xe)
       have XE:=aA (XD.out.trans xe)
       clear xe q0 q1 q2 q3 q4 q5 qz f0 f1 f2 fz r0 r1 r2 rz RD QD FD OD XD fc zg i0 i1 i2 j1 FAD HRTT
       have hlen:=HLEN.out
       have hc2:=HCAP.out
       have u0:=fA OE.out HP0.out (j:=0) (u:= .int .i64 fx) rfl
       have u1:=fA OE.out HP0.out (j:=1) (u:= .int .i64 fy) rfl
       have u2:=fA OE.out HPL.out (j:=0) (u:= .int .i64 tx) rfl
       have u3:=fA OE.out HPL.out (j:=1) (u:= .int .i64 ty) rfl
       have uz:=(aK OE.out (k:=rg) rfl).2
       simp only[cellE,Nat.zero_mul,Nat.zero_add,Nat.add_zero]at u0 u1 u2 u3
       have hq0: ∀w,(Op.equalIn 10000 28 (.agg #[.int .i64 fx, .int .i64 fy]) (.agg #[.int .i64 fx, .int .i64 fy])).run Tryz.prog w= .ok true w:=fun w=>by rw[bJ (fx,fy) (fx,fy) w,aX,decide_eq_true rfl]
       have hq1: ∀w,(Op.equalIn 10000 28 (.agg #[.int .i64 tx, .int .i64 ty]) (.agg #[.int .i64 tx, .int .i64 ty])).run Tryz.prog w= .ok true w:=fun w=>by rw[bJ (tx,ty) (tx,ty) w,aX,decide_eq_true rfl]
       have g1:(c1 !=c1)=false:=by simp
       have e3:decide (((P:Int)+1)<1)=false:=by simp;omega
       have s1:IntKind.i64.wrap ((P:Int)+1-1)=(P:Int):=by rw[Int.add_sub_cancel];exact IntWalk.i64_in _ (by omega)
       have s3:IntKind.i64.wrap (P:Int)=(P:Int):=IntWalk.i64_in _ (by omega)
       have jP:(P:Int)<(P:Int)+1:=by omega
       have r0:=RE.out.at 0 rfl;have r1:=RE.out.at 1 rfl;have r2:=RE.out.at 2 rfl;have rz:=RE.out.lt
       have q0:=QE.out.at 0 rfl;have q1:=QE.out.at 1 rfl;have q2:=QE.out.at 2 rfl;have q3:=QE.out.at 3 rfl;have q4:=QE.out.at 4 rfl;have q5:=QE.out.at 5 rfl;have qz:=QE.out.lt
       go_wp2_with fail
       refine aJ (S:=(fun W=>(∀b o,b<we.heap.size→W.cell? ⟨b,o,none⟩=we.cell? ⟨b,o,none⟩)∧Ext we W)) [(0,true),(1,true),(2,true),(3,true),(4,true),(5,true),(6,true),(7,true),(8,true),(9,true),(10,true),(11,true),(12,true),(13,true),(14,true),(15,true),(16,true),(17,true),(18,true),(19,true),(20,true),(21,true),(22,true),(23,true),(24,true),(25,true),(26,true),(27,true),(28,true),(29,true),(30,true),(31,true),(32,true),(33,true),(34,true),(35,true),(36,true),(37,true),(38,true),(39,true),(40,true),(41,true),(42,true),(43,true),(44,true)] (by kernel_rfl) (by kernel_rfl) (by kernel_rfl) (by decide) (fun _ _ d _ _ h=>by cases d<;>exact h) (by first|with_reducible exact aM _|exact aG z_x) (fun hHeld=> ?_)
       iterate 45 (refine SeqH.fr1 ?_;try simp only[Act.put,z_3,z_4,z_5])
       refine SeqH.done ?_
       have XG:=aA hHeld.2
       clear hHeld
       go_upto_region 41 with(fail)
       obtain⟨wg,hwg⟩: ∃z,z=we.drew:=⟨_,rfl⟩
       rw[←hwg]at XG⊢
       have RG:=aA (RE.out.ext XG.out)
       have OG:=aA (OE.out.ext XG.out)
       have XGG:=aA (XE.out.trans XG.out)
       have PG:=aA (P7.out.ext XGG.out)
       clear hwg XG RE QE OE XE u0 u1 u2 u3 uz r0 r1 r2 rz q0 q1 q2 q3 q4 q5 qz hq0 hq1 g1 e3 s1 s3 jP f4
       go_wp2_with fail
       go_loopw [23] (fun iv wr=> ∃j:Nat,1≤j∧j≤P+1∧iv= .int .i64 (j:Int)∧Ext wg wr) (fun iv _=>P+1-(intOf iv).toNat)
       case atStart=>exact⟨1,Nat.le_refl _,by omega,rfl,Ext.refl _⟩
       case round=>
        obtain⟨j,hj1,hj,rfl,hx⟩:=hrel
        have XR:=aA hx
        have RR:=aA (RG.out.ext hx)
        have PR:=aA (PG.out.ext hx)
        have OR:=aA (OG.out.ext hx)
        have hpm:=HLEN.out
        clear hx
        by_cases hlt:j<P+1
        ·obtain⟨k,hkj⟩: ∃k,j=k+1:=⟨j-1,by omega⟩
         have hk1:k<p1.length:=by rw[HM1.out];omega
         have hk2:j<p1.length:=by rw[HM1.out];omega
         obtain⟨x,hxe⟩: ∃z,p1[k]? =some z:=⟨_,List.getElem?_eq_getElem hk1⟩
         obtain⟨y,hye⟩: ∃z,p1[j]? =some z:=⟨_,List.getElem?_eq_getElem hk2⟩
         have hcr:=HCRR.out k x y hxe (by rw[←hkj];exact hye)
         have hix:=HGPI.out k x hxe
         have hiy:=HGPI.out j y hye
         obtain⟨x1,x2⟩:=x
         obtain⟨y1,y2⟩:=y
         have u0:=fA OR.out hxe (j:=0) (u:= .int .i64 x1) rfl
         have u1:=fA OR.out hxe (j:=1) (u:= .int .i64 x2) rfl
         have u2:=fA OR.out hye (j:=0) (u:= .int .i64 y1) rfl
         have u3:=fA OR.out hye (j:=1) (u:= .int .i64 y2) rfl
         have uz:=(aK OR.out (k:=rg) rfl).2
         simp only[cellE,Nat.add_zero]at u0 u1 u2 u3
         have HCZ:=aA (fun(w':World) (x:Ext wr w')=>HCX.out w' (XGG.out.trans (XR.out.trans x)) x1 x2 y1 y2 hix hiy)
         rw[hcr]at HCZ
         have s1:IntKind.i64.wrap ((j:Int)-1)=(k:Int):=by rw[show(j:Int)-1=(k:Int) by omega];exact IntWalk.i64_in _ (by omega)
         have j2:(k:Int)<(P:Int)+1:=by omega
         have j3:(j:Int)<(P:Int)+1:=by omega
         clear hk1 hk2 hxe hye hcr hix hiy hkj hpm
         have r0:=RR.out.at 0 rfl;have r1:=RR.out.at 1 rfl;have r2:=RR.out.at 2 rfl;have rz:=RR.out.lt
         have p0:=PR.out.at 0 rfl;have p1:=PR.out.at 1 rfl;have p2:=PR.out.at 2 rfl;have pz:=PR.out.lt
         go_wp2_with fail
         refine aJ (S:=(fun W=>(∀b o,b<wr.heap.size→W.cell? ⟨b,o,none⟩=wr.cell? ⟨b,o,none⟩)∧Ext wr W)) [(0,true),(1,true),(2,true),(3,true),(4,true),(5,true),(6,true),(7,true),(8,true),(9,true),(10,true),(11,true),(12,true),(13,false),(14,true)] (by kernel_rfl) (by kernel_rfl) (by kernel_rfl) (by decide) (fun _ _ d _ _ h=>by cases d<;>exact h) (by first|with_reducible exact aM _|exact aG z_x) (fun hHeld=> ?_)
         iterate 13 (refine SeqH.fr1 ?_;try simp only[Act.put,z_3,z_4,z_5])
         (apply SeqH.step;(·(simp only[z_0,z_1,z_2];rfl));intro K hK;go_simp;refine(HCZ.out _ z_x).mono ?_;rintro e wo ⟨rfl,xo⟩;go_wp2_with fail;refine hK.out _ _ (aG z_x) (fun hHeld=> ?_);clear hK K;try simp only[Act.put,z_3,z_4,z_5])
         iterate 1 (refine SeqH.fr1 ?_;try simp only[Act.put,z_3,z_4,z_5])
         refine SeqH.done ?_
         have XO:=aA (XR.out.trans hHeld.2)
         clear hHeld
         go_wp2_with fail
         go_roundw
         case rel=>exact⟨j+1,by omega,by omega,by go_num,XO.out⟩
         case measure=>simp[intOf];omega
        ·have r0:=RR.out.at 0 rfl;have r1:=RR.out.at 1 rfl;have r2:=RR.out.at 2 rfl;have rz:=RR.out.lt
         have j4: ¬((j:Int)<(P:Int)+1):=by omega
         clear hpm
         go_wp2_with (go_at_call 10;refine(cY _).mono ?_;rintro e wz ⟨rfl,xz⟩;have XZ:=aA (XR.out.trans xz);clear xz)
         go_ret
         exact⟨rfl,X7.out.trans (XGG.out.trans XZ.out)⟩
theorem vW {w:World} (W H:Int) (a:Option Addr) (l:List Int) (c:Nat) (s fx fy tx ty b:Int) (hr:Row16 w a l) (hu:cS l):
  Calls Tryz.prog 8 #[.agg #[.int .i64 W, .int .i64 H, .slice a l.length c], .agg #[.int .i64 s, .int .i64 fx, .int .i64 fy, .int .i64 tx, .int .i64 ty, .int .i64 b]] w fun e w'=>e= .returned (.bool true)∧Ext w w':=by
 cases hm:(decide (l.length≤150)&&decide (fK W H l.length s=0))
 ·exact aLo W H a l.length c s fx fy tx ty b hm
 ·have hm':=hm
  rw[Bool.and_eq_true,decide_eq_true_eq,decide_eq_true_eq]at hm'
  have g:=yO hu hm'.2
  cases ho:(inB W H fx fy&&inB W H tx ty)
  ·exact aL2 W H a l.length c s fx fy tx ty b hm (checkE_ok.1 g.ok).1 ho
  ·rw[Bool.and_eq_true]at ho
   exact aL3 c fx fy tx ty b g hm'.1 hr hm'.2 ho.1 ho.2
end Go.Proofs.YtaellcgglldjaaaGreat

