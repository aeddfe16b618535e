/- Part of a proof: HierD HierG FloodI0. -/
import Derived.Test.YtaellcgglldjaaaGreatHierFindsQ29
import Derived.Test.YtaellcgglldjaaaGreatHierFindsQ28
import Derived.Test.YtaellcgglldjaaaGreatHierFindsQ13
set_option linter.all false
set_option linter.unusedVariables false
set_option linter.unusedSimpArgs false
namespace Go.Proofs.YtaellcgglldjaaaGreat
open Go.RowKit
def cD (a b:aB) (x:Int):Value:= .agg #[.int .i64 a.1, .int .i64 a.2, .int .i64 b.1, .int .i64 b.2, .int .u64 x]
def pM (W:Int) (l:List Int) (g:aB×aB) (a:aB):Value:=if g.1=a then cD a g.2 (aL l W g.2) else if g.2=a then cD a g.1 (aL l W g.1) else cD (0,0) (0,0) 0
section
variable {w:World} {lb:Nat} {p:Spot} {R:Nat→Prop} {W H s:Int} {l:List Int} {fa:Option Addr} {fc:Nat} {ga:Option Addr} {gc:Nat} {f t:aB}
set_option maxRecDepth 100000 in
set_option maxHeartbeats 1000000 in
theorem aC9 (h:HLand w lb p R W H s l fa fc ga gc f t) (g:aB×aB) (a:aB) (h1:inB W H g.1.1 g.1.2=true) (h2:inB W H g.2.1 g.2.2=true):
  Calls Tryz.prog 101 #[.pointer (some ⟨lb,0,none⟩), .agg #[.int .i64 g.1.1, .int .i64 g.1.2, .int .i64 g.2.1, .int .i64 g.2.2], .agg #[.int .i64 a.1, .int .i64 a.2]] w fun e w'=>e= .returned (pM W l g a)∧Ext w w':=by
 have HC1:=aA (fun(w':World) (x:Ext w w')=>oR (h.ext x) h1)
 have HC2:=aA (fun(w':World) (x:Ext w w')=>oR (h.ext x) h2)
 clear h h1 h2
 obtain⟨⟨ux,uy⟩,⟨vx,vy⟩⟩:=g
 obtain⟨ax,ay⟩:=a
 simp only at HC1 HC2
 have hE1:=fun(w:World)=>bC (ax,ay) (ux,uy) w
 have hE2:=fun(w:World)=>bC (ax,ay) (vx,vy) w
 simp only at hE1 hE2
 rw[bB]at hE1 hE2
 obtain⟨V,hV⟩: ∃V,pM W l ((ux,uy),(vx,vy)) (ax,ay)=V:=⟨_,rfl⟩
 have V1:=aA (fun(h:(ax,ay)=(ux,uy))=>(show cD (ax,ay) (vx,vy) (aL l W (vx,vy))=V from by rw[←hV];unfold pM;rw[if_pos h.symm]))
 have V2:=aA (fun(h: ¬(ax,ay)=(ux,uy)) (h':(ax,ay)=(vx,vy))=>(show cD (ax,ay) (ux,uy) (aL l W (ux,uy))=V from by rw[←hV];unfold pM;rw[if_neg (fun e=>h e.symm),if_pos h'.symm]))
 have V3:=aA (fun(h: ¬(ax,ay)=(ux,uy)) (h': ¬(ax,ay)=(vx,vy))=>(show cD (0,0) (0,0) 0=V from by rw[←hV];unfold pM;rw[if_neg (fun e=>h e.symm),if_neg (fun e=>h' e.symm)]))
 rw[hV]
 clear hV
 simp only
 go_enter Tryz.func101,Tryz.ntmps101
 go_upto_region 1 with(fail)
 obtain⟨w1,hw1⟩: ∃z,z=((w.alloc (.cells #[.int .i64 ux, .int .i64 uy, .int .i64 vx, .int .i64 vy] 160)).alloc (.cells #[.int .i64 ax, .int .i64 ay] 28)).alloc (.cells #[.int .i64 0, .int .i64 0, .int .i64 0, .int .i64 0, .int .u64 0] 56):=⟨_,rfl⟩
 have X1:=aA (show Ext w w1 by rw[hw1];exact(((Ext.refl _).alloc _).alloc _).alloc _)
 have G1:=aA (show Blk w1 w.heap.size 160 #[.int .i64 ux, .int .i64 uy, .int .i64 vx, .int .i64 vy] by rw[hw1];exact(Blk.new_ rfl).over.over)
 have A1:=aA (show Blk w1 (w.heap.size+1) 28 #[.int .i64 ax, .int .i64 ay] by rw[hw1];exact(Blk.new_ (by simp)).over)
 have L1:=aA (show Blk w1 (w.heap.size+1+1) 56 #[.int .i64 0, .int .i64 0, .int .i64 0, .int .i64 0, .int .u64 0] by rw[hw1];exact Blk.new_ (by simp))
 rw[←hw1]
 obtain⟨gb,hgb⟩: ∃z,w.heap.size=z:=⟨_,rfl⟩
 have zgw:w.heap.size≤gb:=by omega
 rw[hgb]at G1 A1 L1⊢
 clear hw1 hgb
 have g0:=G1.out.at 0 rfl;have g1:=G1.out.at 1 rfl;have g2:=G1.out.at 2 rfl;have g3:=G1.out.at 3 rfl;have gz:=G1.out.lt
 have c0:=A1.out.at 0 rfl;have c1:=A1.out.at 1 rfl;have cz:=A1.out.lt
 have r0:=L1.out.at 0 rfl;have r1:=L1.out.at 1 rfl;have r2:=L1.out.at 2 rfl;have r3:=L1.out.at 3 rfl;have r4:=L1.out.at 4 rfl;have rz:=L1.out.lt
 have S0:=aA (show CellsAt [(⟨gb,0,none⟩, .int .i64 ux),(⟨gb,1,none⟩, .int .i64 uy),(⟨gb,2,none⟩, .int .i64 vx),(⟨gb,3,none⟩, .int .i64 vy),(⟨gb+1,0,none⟩, .int .i64 ax),(⟨gb+1,1,none⟩, .int .i64 ay)] w1 from⟨g0,g1,g2,g3,c0,c1,trivial⟩)
 have FIN:Hid (∀(w2:World) (a b c d e:Value),Ext w1 w2→Blk (((((w2.setCell ⟨gb+1+1,0,none⟩ a).setCell ⟨gb+1+1,1,none⟩ b).setCell ⟨gb+1+1,2,none⟩ c).setCell ⟨gb+1+1,3,none⟩ d).setCell ⟨gb+1+1,4,none⟩ e) (gb+1+1) 56 #[a,b,c,d,e]∧Ext w (((((w2.setCell ⟨gb+1+1,0,none⟩ a).setCell ⟨gb+1+1,1,none⟩ b).setCell ⟨gb+1+1,2,none⟩ c).setCell ⟨gb+1+1,3,none⟩ d).setCell ⟨gb+1+1,4,none⟩ e)):=aA (fun w2 a b c d e x=>by
  refine⟨?_,?_⟩
  ·exact(((((L1.out.ext x).set_ 0 a).set_ 1 b).set_ 2 c).set_ 3 d).set_ 4 e
  exact(((((X1.out.trans x).setCell (p:=⟨gb+1+1,0,none⟩) (by simp;omega) a).setCell (p:=⟨gb+1+1,1,none⟩) (by simp;omega) b).setCell (p:=⟨gb+1+1,2,none⟩) (by simp;omega) c).setCell (p:=⟨gb+1+1,3,none⟩) (by simp;omega) d).setCell (p:=⟨gb+1+1,4,none⟩) (by simp;omega) e)
 have rf0:=L1.out.frozen 0
 have rf1:=L1.out.frozen 1
 have rf2:=L1.out.frozen 2
 have rf3:=L1.out.frozen 3
 have rf4:=L1.out.frozen 4
 by_cases e1:(ax,ay)=(ux,uy)
 ·have d1:decide ((ax,ay)=(ux,uy))=true:=by simpa using e1
  rw[d1]at hE1
  have HVV:=aA (V1.out e1)
  go_upto_region 3 with(fail)
  refine jW (S:=(CellsAt [(⟨gb,0,none⟩, .int .i64 ux),(⟨gb,1,none⟩, .int .i64 uy),(⟨gb,2,none⟩, .int .i64 vx),(⟨gb,3,none⟩, .int .i64 vy),(⟨gb+1,0,none⟩, .int .i64 ax),(⟨gb+1,1,none⟩, .int .i64 ay)])) 8 [(0,true),(1,true),(2,true),(3,true),(4,true),(5,true),(6,false),(7,true),(8,false)] (by kernel_rfl) (by kernel_rfl) (by kernel_rfl) (by decide) (fun _ _ d _ _ h=>by cases d<;>exact h) (CellsAt.ext ((Ext.refl _).drew) S0.out) (fun hK0=> ?_)
  iterate 6 (refine SeqR.fr2 ?_;try simp only[zz])
  (apply SeqR.step;(·(simp only[z_0,z_1,z_2];rfl));intro K hK;go_simp;refine(HC2.out _ (X1.out.trans z_x)).mono ?_;rintro e w3 ⟨rfl,x3⟩;have X3:=aA (show Ext w1 w3 from z_x);have L3:=aA (L1.out.ext X3.out);have t0:=L3.out.at 0 rfl;have t1:=L3.out.at 1 rfl;have t2:=L3.out.at 2 rfl;have t3:=L3.out.at 3 rfl;have t4:=L3.out.at 4 rfl;have tz:=L3.out.lt;have tf0:=L3.out.frozen 0;have tf1:=L3.out.frozen 1;have tf2:=L3.out.frozen 2;have tf3:=L3.out.frozen 3;have tf4:=L3.out.frozen 4;clear x3;go_wp2_with fail;refine hK.out _ _ (fun _=>(CellsAt.ext X3.out S0.out)) (fun hK0=> ?_);replace hK0:=hK0 (by decide);clear hK K;try simp only[zz])
  iterate 1 (refine SeqR.fr2 ?_;try simp only[zz])
  (apply SeqR.step;(·(simp only[z_0,z_1,z_2];rfl));intro K hK;go_simp;refine hK.out _ _ (fun h=>absurd rfl h) (fun hK0=> ?_);clear hK K;try simp only[zz])
  refine SeqR.done ?_
  clear hK0 t0 t1 t2 t3 t4 tz tf0 tf1 tf2 tf3 tf4 r0 r1 r2 r3 r4 rz rf0 rf1 rf2 rf3 rf4 c0 c1 cz g0 g1 g2 g3 gz
  have FB:=aA (FIN.out w3 (.int .i64 ax) (.int .i64 ay) (.int .i64 vx) (.int .i64 vy) (.int .u64 (aL l W (vx,vy))) X3.out)
  have y0:=FB.out.1.at 0 rfl
  have y1:=FB.out.1.at 1 rfl
  have y2:=FB.out.1.at 2 rfl
  have y3:=FB.out.1.at 3 rfl
  have y4:=FB.out.1.at 4 rfl
  have yz:=FB.out.1.lt
  go_wp2_with fail
  exact bodyPost_ret (v:= .agg #[.int .i64 ax, .int .i64 ay, .int .i64 vx, .int .i64 vy, .int .u64 (aL l W (vx,vy))]) (by simp[results,Tryz.results101,go_sem, *]) rfl ⟨congrArg Ending.returned HVV.out,FB.out.2⟩
 have d1:decide ((ax,ay)=(ux,uy))=false:=by simpa using e1
 rw[d1]at hE1
 by_cases e2:(ax,ay)=(vx,vy)
 ·have d2:decide ((ax,ay)=(vx,vy))=true:=by simpa using e2
  rw[d2]at hE2
  have HVV:=aA (V2.out e1 e2)
  go_upto_region 5 with(fail)
  refine jW (S:=(CellsAt [(⟨gb,0,none⟩, .int .i64 ux),(⟨gb,1,none⟩, .int .i64 uy),(⟨gb,2,none⟩, .int .i64 vx),(⟨gb,3,none⟩, .int .i64 vy),(⟨gb+1,0,none⟩, .int .i64 ax),(⟨gb+1,1,none⟩, .int .i64 ay)])) 8 [(0,true),(1,true),(2,true),(3,true),(4,true),(5,true),(6,false),(7,true),(8,false)] (by kernel_rfl) (by kernel_rfl) (by kernel_rfl) (by decide) (fun _ _ d _ _ h=>by cases d<;>exact h) (CellsAt.ext ((Ext.refl _).drew) S0.out) (fun hK0=> ?_)
  iterate 6 (refine SeqR.fr2 ?_;try simp only[zz])
  (apply SeqR.step;(·(simp only[z_0,z_1,z_2];rfl));intro K hK;go_simp;refine(HC1.out _ (X1.out.trans z_x)).mono ?_;rintro e w3 ⟨rfl,x3⟩;have X3:=aA (show Ext w1 w3 from z_x);have L3:=aA (L1.out.ext X3.out);have t0:=L3.out.at 0 rfl;have t1:=L3.out.at 1 rfl;have t2:=L3.out.at 2 rfl;have t3:=L3.out.at 3 rfl;have t4:=L3.out.at 4 rfl;have tz:=L3.out.lt;have tf0:=L3.out.frozen 0;have tf1:=L3.out.frozen 1;have tf2:=L3.out.frozen 2;have tf3:=L3.out.frozen 3;have tf4:=L3.out.frozen 4;clear x3;go_wp2_with fail;refine hK.out _ _ (fun _=>(CellsAt.ext X3.out S0.out)) (fun hK0=> ?_);replace hK0:=hK0 (by decide);clear hK K;try simp only[zz])
  iterate 1 (refine SeqR.fr2 ?_;try simp only[zz])
  (apply SeqR.step;(·(simp only[z_0,z_1,z_2];rfl));intro K hK;go_simp;refine hK.out _ _ (fun h=>absurd rfl h) (fun hK0=> ?_);clear hK K;try simp only[zz])
  refine SeqR.done ?_
  clear hK0 t0 t1 t2 t3 t4 tz tf0 tf1 tf2 tf3 tf4 r0 r1 r2 r3 r4 rz rf0 rf1 rf2 rf3 rf4 c0 c1 cz g0 g1 g2 g3 gz
  have FB:=aA (FIN.out w3 (.int .i64 ax) (.int .i64 ay) (.int .i64 ux) (.int .i64 uy) (.int .u64 (aL l W (ux,uy))) X3.out)
  have y0:=FB.out.1.at 0 rfl
  have y1:=FB.out.1.at 1 rfl
  have y2:=FB.out.1.at 2 rfl
  have y3:=FB.out.1.at 3 rfl
  have y4:=FB.out.1.at 4 rfl
  have yz:=FB.out.1.lt
  go_wp2_with fail
  exact bodyPost_ret (v:= .agg #[.int .i64 ax, .int .i64 ay, .int .i64 ux, .int .i64 uy, .int .u64 (aL l W (ux,uy))]) (by simp[results,Tryz.results101,go_sem, *]) rfl ⟨congrArg Ending.returned HVV.out,FB.out.2⟩
 have d2:decide ((ax,ay)=(vx,vy))=false:=by simpa using e2
 rw[d2]at hE2
 have HVV:=aA (V3.out e1 e2)
 have FB:=aA (FIN.out w1 (.int .i64 0) (.int .i64 0) (.int .i64 0) (.int .i64 0) (.int .u64 0) (Ext.refl _))
 have y0:=FB.out.1.at 0 rfl
 have y1:=FB.out.1.at 1 rfl
 have y2:=FB.out.1.at 2 rfl
 have y3:=FB.out.1.at 3 rfl
 have y4:=FB.out.1.at 4 rfl
 have yz:=FB.out.1.lt
 go_wp2_with fail
 exact bodyPost_ret (v:= .agg #[.int .i64 0, .int .i64 0, .int .i64 0, .int .i64 0, .int .u64 0]) (by simp[results,Tryz.results101,go_sem, *]) rfl ⟨congrArg Ending.returned HVV.out,FB.out.2⟩
end
end Go.Proofs.YtaellcgglldjaaaGreat

namespace Go.Proofs.YtaellcgglldjaaaGreat
open Go.RowKit
set_option maxRecDepth 100000 in
set_option maxHeartbeats 1000000 in
theorem aBx {w:World} {q:gC} {R:Nat→Prop} {W H s:Int} {l:List Int} {NN:Nat} (h:RefS w q R W H s l NN) (a c:aB) (x:Int) (ha:inB W H a.1 a.2=true) (hc:inB W H c.1 c.2=true) (hne:ofN W s c.1 c.2≠ofN W s a.1 a.2):
  Calls Tryz.prog 45 #[.pointer (some ⟨q.b,0,none⟩),cD a c x] w fun e w'=> ∃v,e= .returned v∧Ext w w'∧Own cellE w' w.heap.size 28 v [c]:=by
 have g:=h.good
 have hN:=h.num
 have hNb:(bF W H s).length=NN:=by have:=cQ g.right;omega
 obtain⟨ba,bc,hbv⟩:=h.boxes.slice
 obtain⟨ga,gc,hgv⟩:=h.gates.slice
 rw[hNb]at hbv
 have HBO:=aA (show Own aT w 0 71 (.slice ba NN bc) (bF W H s) by rw[←hbv];exact h.boxes)
 have HOF:=aA (fun(c:aB) (hc:inB W H c.1 c.2=true) (w':World) (x:Ext w w')=>(by
  have hcb:=inB_true.1 hc
  obtain⟨hmay,hlw⟩:=checkE_ok.1 g.ok
  obtain⟨wb1,wb2,wb3,wb4⟩:=mayB_true.1 hmay
  have h1:=uT (.slice ba NN bc) (bF W H s) c.1 c.2 w' (by have:=g.cnt;omega) (by have:=g.cnt;omega) (HBO.out.reads.ext x) (jJ g.right) (by unfold InI;omega) (by unfold InI;omega)
  rw[yS g.right hc]at h1
  exact h1:Calls Tryz.prog 57 #[.slice ba NN bc, .agg #[.int .i64 c.1, .int .i64 c.2]] w' fun e w''=>e= .returned (.int .i64 (ofN W s c.1 c.2))∧Ext w' w''))
 have B:=aA h.blk
 unfold gN at B
 rw[hbv,hgv]at B
 have HOA:=aA (HOF.out a ha)
 have HOC:=aA (HOF.out c hc)
 obtain⟨i1,hi1⟩: ∃z,ofN W s a.1 a.2=z:=⟨_,rfl⟩
 obtain⟨i2,hi2⟩: ∃z,ofN W s c.1 c.2=z:=⟨_,rfl⟩
 rw[hi1]at HOA hne
 rw[hi2]at HOC hne
 obtain⟨qb,hqb⟩: ∃z,q.b=z:=⟨_,rfl⟩
 rw[hqb]at B⊢
 obtain⟨ax,ay⟩:=a
 obtain⟨cx,cy⟩:=c
 simp only at HOA HOC
 clear HOF hi1 hi2 hqb hbv hgv HBO hN hNb g h ha hc
 unfold cD
 simp only
 have d1:(i2==i1)=false:=by simpa using hne
 go_enter Tryz.func45,Tryz.ntmps45
 go_upto_region 1 with(fail)
 obtain⟨w1,hw1⟩: ∃z,z=w.alloc (.cells #[.int .i64 ax, .int .i64 ay, .int .i64 cx, .int .i64 cy, .int .u64 x] 67):=⟨_,rfl⟩
 have X1:=aA (show Ext w w1 by rw[hw1];exact(Ext.refl _).alloc _)
 have L1:=aA (show Blk w1 w.heap.size 67 #[.int .i64 ax, .int .i64 ay, .int .i64 cx, .int .i64 cy, .int .u64 x] by rw[hw1];exact Blk.new_ rfl)
 rw[←hw1]
 have B1:=aA (B.out.ext X1.out)
 clear hw1
 have c0:=L1.out.at 0 rfl;have c1:=L1.out.at 1 rfl;have c2:=L1.out.at 2 rfl;have c3:=L1.out.at 3 rfl;have c4:=L1.out.at 4 rfl;have cz:=L1.out.lt
 have b0:=B1.out.at 0 rfl;have b1:=B1.out.at 1 rfl;have b2:=B1.out.at 2 rfl;have b3:=B1.out.at 3 rfl;have b4:=B1.out.at 4 rfl;have b5:=B1.out.at 5 rfl;have bz:=B1.out.lt
 refine aS w1 [(0,true),(1,true),(2,true),(3,true),(4,true),(5,true),(6,false),(7,true)] (fun hK0=> ?_)
 iterate 6 (refine SeqH.fr1 ?_;try simp only[zz])
 (refine aP ?_;intro K hK;go_simp;refine(HOA.out _ (X1.out.trans z_x)).mono ?_;rintro e w3 ⟨rfl,x3⟩;go_wp2_with fail;refine hK.out _ _ (aI z_x) (fun hK0=> ?_);clear hK K;try simp only[zz])
 iterate 1 (refine SeqH.fr1 ?_;try simp only[zz])
 refine SeqH.done ?_
 have XE:=aA hK0.2
 clear hK0 x3 c0 c1 c2 c3 c4 cz b0 b1 b2 b3 b4 b5 bz
 have X3:=aA (X1.out.trans XE.out)
 have L3:=aA (L1.out.ext XE.out)
 have B3:=aA (B.out.ext X3.out)
 clear XE
 have c0:=L3.out.at 0 rfl;have c1:=L3.out.at 1 rfl;have c2:=L3.out.at 2 rfl;have c3:=L3.out.at 3 rfl;have c4:=L3.out.at 4 rfl;have cz:=L3.out.lt
 have b0:=B3.out.at 0 rfl;have b1:=B3.out.at 1 rfl;have b2:=B3.out.at 2 rfl;have b3:=B3.out.at 3 rfl;have b4:=B3.out.at 4 rfl;have b5:=B3.out.at 5 rfl;have bz:=B3.out.lt
 go_upto_region 2 with(fail)
 refine aS w3 [(0,true),(1,true),(2,true),(3,true),(4,true),(5,true),(7,true),(6,false),(8,true)] (fun hK0=> ?_)
 iterate 7 (refine SeqH.fr1 ?_;try simp only[zz])
 (refine aP ?_;intro K hK;go_simp;refine(HOC.out _ (X3.out.trans z_x)).mono ?_;rintro e w5 ⟨rfl,x5⟩;go_wp2_with fail;refine hK.out _ _ (aI z_x) (fun hK0=> ?_);clear hK K;try simp only[zz])
 iterate 1 (refine SeqH.fr1 ?_;try simp only[zz])
 refine SeqH.done ?_
 have XE:=aA hK0.2
 clear hK0 x5 c0 c1 c2 c3 c4 cz b0 b1 b2 b3 b4 b5 bz
 have X5:=aA (X3.out.trans XE.out)
 have L5:=aA (L3.out.ext XE.out)
 have z5:=X5.out.size
 clear XE
 have c0:=L5.out.at 0 rfl;have c1:=L5.out.at 1 rfl;have c2:=L5.out.at 2 rfl;have c3:=L5.out.at 3 rfl;have c4:=L5.out.at 4 rfl;have cz:=L5.out.lt
 go_wp2
 go_ret
 exact⟨_,rfl,X5.out.trans ((Ext.refl _).alloc _),Own.lit1 cellE w5 _ _ _ (cx,cy) _ rfl rfl z5⟩
end Go.Proofs.YtaellcgglldjaaaGreat

namespace Go.Proofs.YtaellcgglldjaaaGreat
open Go.RowKit
theorem aEr {w:World} {v:Value} {l:List aB} (h:Reads cellE w v l) (h1:0<l.length): ∃b off c,v= .slice (some ⟨b,off,none⟩) l.length c∧b<w.heap.size∧ ∀k p,l[k]? =some p→w.cell? ⟨b,off+k*2,none⟩=some (.int .i64 p.1)∧w.cell? ⟨b,off+k*2+1,none⟩=some (.int .i64 p.2):=by
 rcases h with⟨_,h⟩|⟨b,off,c,hv,hb,hc⟩
 ·rw[h]at h1;simp at h1
 refine⟨b,off,c,hv,hb,fun k p hk=>⟨?_,?_⟩⟩
 ·have:=hc k p hk 0 (.int .i64 p.1) rfl
  simpa [cellE] using this
 have:=hc k p hk 1 (.int .i64 p.2) rfl
 rw[show off+k*2+1=off+(k*2+1) by omega]
 simpa [cellE,Nat.add_assoc] using this
end Go.Proofs.YtaellcgglldjaaaGreat

