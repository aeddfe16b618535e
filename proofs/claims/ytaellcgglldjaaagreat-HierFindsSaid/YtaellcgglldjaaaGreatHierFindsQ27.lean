/- Part of a proof: RefW HierC RefD. -/
import Derived.Test.YtaellcgglldjaaaGreatHierFindsQ23
import Derived.Test.YtaellcgglldjaaaGreatHierFindsQ24
import Derived.Test.YtaellcgglldjaaaGreatHierFindsQ26
import Derived.Test.YtaellcgglldjaaaGreatHierFindsQ22
import Derived.Test.YtaellcgglldjaaaGreatHierFindsQ11
import Derived.Test.YtaellcgglldjaaaGreatHierFindsQ04
set_option linter.all false
set_option linter.unusedVariables false
set_option linter.unusedSimpArgs false
namespace Go.Proofs.YtaellcgglldjaaaGreat
open Go.RowKit
theorem aIe:cH Tryz.prog 113 121 (.agg #[.slice none 0 0, .slice none 0 0]) 2 48:=⟨Tryz.underlying113,by kernel_rfl,rfl,by decide⟩
noncomputable def pJ (W H s:Int) (l:List Int) (N:Nat):List Tab:=(List.range N).map fun i:Nat=>dK W H s l (i:Int)
theorem wX (W H s:Int) (l:List Int) (N:Nat):(pJ W H s l N).length=N:=by simp[pJ]
theorem aEz (W H s:Int) (l:List Int) (N:Nat):pJ W H s l (N+1)=pJ W H s l N++[dK W H s l (N:Int)]:=by
 unfold pJ;rw[List.range_succ,List.map_append];rfl
structure gC where
 b:Nat
 a:Option Addr
 c:Nat
 bv:Value
 gv:Value
 tg:Nat
 tc:Nat
def gN (q:gC) (W H s:Int) (n N:Nat):Array Value:= #[.int .i64 W, .int .i64 H, .slice q.a n q.c, .int .i64 s,q.bv,q.gv, .slice (some ⟨q.tg,0,none⟩) N q.tc]
structure RefS (w:World) (q:gC) (R:Nat→Prop) (W H s:Int) (l:List Int) (N:Nat):Prop where
 good:Good W H s l
 num:(N:Int)=cnt W H s
 blk:Blk w q.b 115 (gN q W H s l.length N)
 row:Row16 w q.a l
 boxes:Own aT w 0 71 q.bv (bF W H s)
 gates:Own aT w 0 132 q.gv (aD W H s l)
 tabs: ∃ts,Own tabE w 0 121 (.slice (some ⟨q.tg,0,none⟩) N q.tc) ts∧TabsR R w ts (pJ W H s l N)
 inB:R q.b
 inA: ∀g off,q.a=some ⟨g,off,none⟩→R g
 inBx:InR R q.bv
 inG:InR R q.gv
 inT:R q.tg
theorem RefS.touch {w w':World} {q:gC} {R S:Nat→Prop} {W H s:Int} {l:List Int} {N:Nat} (h:RefS w q R W H s l N) (t:Touch S w w') (hs: ∀k,R k→ ¬S k):RefS w' q R W H s l N where
 good:=h.good
 num:=h.num
 blk:=h.blk.touch t (hs _ h.inB)
 row:=h.row.touch t fun b off e=>hs _ (h.inA b off e)
 boxes:=h.boxes.touch t fun k hk=>hs _ (h.inBx k hk)
 gates:=h.gates.touch t fun k hk=>hs _ (h.inG k hk)
 tabs:=by
  obtain⟨ts,h1,h2⟩:=h.tabs
  exact⟨ts,h1.touch t fun k hk=>hs _ (by have:=rB hk;rw[←this];exact h.inT),h2.touch t hs⟩
 inB:=h.inB
 inA:=h.inA
 inBx:=h.inBx
 inG:=h.inG
 inT:=h.inT
theorem RefS.ext {w w':World} {q:gC} {R:Nat→Prop} {W H s:Int} {l:List Int} {N:Nat} (h:RefS w q R W H s l N) (x:Ext w w'):RefS w' q R W H s l N:=
 h.touch (Touch.of_ext (S:=fun _=>False) x) (fun _ _ h=>h)
def aKi (w:World) (q:gC) (R:Nat→Prop) (W H s:Int) (l:List Int):Prop:=RefS w q R W H s l (cnt W H s).toNat
theorem lZ {w:World} {base n c:Nat} {e:TypeId} {a:Option Addr} {l:List (aB×aB)} {j:Nat} {q:aB×aB} (h:Own aT w base e (.slice a n c) l) (hj:l[j]? =some q):
  ∃g,a=some ⟨g,0,none⟩∧g<w.heap.size∧w.cell? ⟨g,j*4,none⟩=some (.int .i64 q.1.1)∧w.cell? ⟨g,j*4+1,none⟩=some (.int .i64 q.1.2)∧w.cell? ⟨g,j*4+2,none⟩=some (.int .i64 q.2.1)∧w.cell? ⟨g,j*4+3,none⟩=some (.int .i64 q.2.2):=nS h hj
theorem aBt {α:Type} {E:Enc α} {w:World} {base n c:Nat} {e:TypeId} {a:Option Addr} {l:List α} (h:Own E w base e (.slice a n c) l) (hn:a=none):c=0:=by
 rcases h.2 with⟨hv,_⟩|⟨g,cap,cur,hv,_⟩
 ·injection hv
 injection hv with e1 _ _
 rw[hn]at e1
 cases e1
def aKr (w:World) (a:Option Addr) (c:Nat) (W H s:Int) (l:List Int) (e:Ending) (w':World):Prop:=
 ∃q,e= .returned (.pointer (some ⟨q.b,0,none⟩))∧Ext w w'∧aKi w' q (fun k=>(w.heap.size≤k∧k<w'.heap.size)∨ ∃o,a=some ⟨k,o,none⟩) W H s l∧q.a=a∧q.c=c∧w.heap.size≤q.b
set_option maxRecDepth 100000 in
set_option maxHeartbeats 2000000 in
theorem aEo {w:World} {W H:Int} {a:Option Addr} {l:List Int} (c:Nat) {s:Int} (g:Good W H s l) (hr:Row16 w a l) (hs:(aD W H s l).length≤50000):
  Calls Tryz.prog 15 #[.agg #[.int .i64 W, .int .i64 H, .slice a l.length c], .int .i64 s] w (aKr w a c W H s l):=by
 obtain⟨hm,hl2⟩:=checkE_ok.1 g.ok
 have bcn:=g.cnt
 have hlen:=g.len
 obtain⟨N,hN⟩: ∃N:Nat,(cnt W H s).toNat=N:=⟨_,rfl⟩
 have HC:=aA (show cnt W H s=(N:Int) by omega)
 have HNT:=aA hN
 have hN2:N≤65536:=by omega
 have hNb:(bF W H s).length=N:=by have:=cQ g.right;omega
 have HLB:=aA hNb
 have HBX:=aA (fun w'=>tU W H s w' g.right)
 have HOF:=aA (fun(w':World) (x:Ext w w')=>aHe W H a l c s N w' hm hl2 (hr.ext x) g.u16 g.right hNb)
 rw[wN g.right HC.out]at HOF
 rw[show ofG l W H s (cnt W H s).toNat=aD W H s l from rfl]at HOF
 have HG:=aA g
 have HR:=aA hr
 have HGS:=aA hs
 have HAT:=aA (fun(k:Nat) (hk:k<N)=>fW g.right k (show(k:Int)<cnt W H s by omega))
 have HCE:Hid (∀(w':World) (v:Value) (k:Nat),k<N→Reads aT w' v (aD W H s l)→Calls Tryz.prog 49 #[v, .agg #[.int .i64 (aR W s (k:Int)), .int .i64 (aO W s (k:Int)), .int .i64 (aZ W s (k:Int)), .int .i64 (bA W H s (k:Int))]] w' (xU w' (bR W H s l (k:Int)))):=aA (fun w' v k hk o=>by
  have hk0:(0:Int)≤(k:Int)∧(k:Int)<cnt W H s:=⟨by omega,by omega⟩
  have hbd:=eM g.right hk0.1 hk0.2
  have hsz:=fJ g.right hk0.1 hk0.2
  obtain⟨r1,r2,r3,r4,r5,r6⟩:=rightB_true.1 g.right
  exact aA1 (aD W H s l) v _ _ _ _ w' hs o (by omega) (by omega) (by omega) (by omega))
 have HTO:Hid (∀(w':World) (k:Nat) (ca:Option Addr) (cc:Nat),Ext w w'→k<N→RowC w' ca (bR W H s l (k:Int))→(ca=none→cc=0)→Calls Tryz.prog 48 #[.agg #[.int .i64 W, .int .i64 H, .slice a l.length c], .agg #[.int .i64 (aR W s (k:Int)), .int .i64 (aO W s (k:Int)), .int .i64 (aZ W s (k:Int)), .int .i64 (bA W H s (k:Int))], .slice ca (bR W H s l (k:Int)).length cc] w' fun e w''=> ∃v1 v2,e= .returned (.agg #[v1,v2])∧Ext w' w''∧Own cellE w'' w'.heap.size 28 v1 (dK W H s l (k:Int)).1∧RowsAt w'' w'.heap.size v2 (dK W H s l (k:Int)).2):=aA (fun w' k ca cc x hk hrc hn=>by
  have hk0:(0:Int)≤(k:Int)∧(k:Int)<cnt W H s:=⟨by omega,by omega⟩
  unfold dK
  rw[rD (g.box hk0)]
  exact aHf (w:=w') (g.box hk0) c cc (fun q hq=>by have h:=aCl g hk0 hq;rwa [iN g.right hk0 q]at h) (by have:=sC (l:=l) g hk0;omega) (hr.ext x) g.u16 hrc hn)
 have HTL:=aA (fun(k:Nat) (hk:k<N)=>pI (l:=l) g (id:=(k:Int)) ⟨by omega,by omega⟩)
 have HTC:=aA (fun(k:Nat)=>(show(dK W H s l (k:Int)).1=bR W H s l (k:Int) from rfl))
 obtain⟨n,hn⟩: ∃z,l.length=z:=⟨_,rfl⟩
 have HL:=aA hn
 rw[hn]at HOF HTO⊢
 clear g hr hs hm hl2 bcn hlen hN hNb hn
 go_enter Tryz.func15,Tryz.ntmps15
 go_wp2_with fail
 obtain⟨w1,hw1⟩: ∃z,z=w.alloc (.cells #[.int .i64 W, .int .i64 H, .slice a n c] 26):=⟨_,rfl⟩
 have X1:=aA (show Ext w w1 by rw[hw1];exact(Ext.refl _).alloc _)
 have F1:=aA (show Blk w1 w.heap.size 26 #[.int .i64 W, .int .i64 H, .slice a n c] by rw[hw1];exact Blk.new_ rfl)
 rw[←hw1]
 clear hw1
 have x0:=F1.out.at 0 rfl;have x1:=F1.out.at 1 rfl;have x2:=F1.out.at 2 rfl;have xz:=F1.out.lt
 refine aS w1 [(0,true),(1,true),(2,true),(3,true),(4,true),(6,true),(7,true),(5,false),(8,false),(9,true),(10,false),(11,true)] (fun hK0=> ?_)
 iterate 7 (refine SeqH.fr1 ?_;try simp only[zz])
 (refine aP ?_;intro K hK;go_simp;refine(HBX.out _).mono ?_;rintro e w3 ⟨bv,rfl,x3,o3⟩;obtain⟨ba,bc,rfl⟩:=o3.slice;rw[show(eN W H s (acr H s).toNat).length=N from HLB.out]at o3⊢;have O3:=aA o3;clear o3;go_wp2_with fail;refine hK.out _ _ (aI z_x) (fun hK0=> ?_);clear hK K;try simp only[zz])
 (refine aP ?_;intro K hK;go_simp;refine(HOF.out _ (X1.out.trans z_x)).mono ?_;rintro e w4 ⟨gv,rfl,x4,o4⟩;obtain⟨ga,gc,rfl⟩:=o4.slice;have O4:=aA o4;have P4:=aA (O3.out.ext x4);clear o4;go_wp2_with fail;refine hK.out _ _ (aI z_x) (fun hK0=> ?_);clear hK K;try simp only[zz])
 iterate 1 (refine SeqH.fr1 ?_;try simp only[zz])
 (refine aP ?_;intro K hK;go_simp;refine hK.out _ _ (aI z_x) (fun hK0=> ?_);clear hK K;try simp only[zz])
 iterate 1 (refine SeqH.fr1 ?_;try simp only[zz])
 refine SeqH.done ?_
 have XW4:Ext w1 w4:=(show Ext w1 w3 from z_x).trans x4
 obtain⟨wa,hwa⟩: ∃z,z=w4.alloc (.cells #[.int .i64 W, .int .i64 H, .slice a n c, .int .i64 s, .slice ba N bc, .slice ga (aD W H s l).length gc, .slice none 0 0] 115):=⟨_,rfl⟩
 have hxa:Ext w4 wa:=by rw[hwa];exact(Ext.refl _).alloc _
 have BB:=aA (show Blk wa w4.heap.size 115 #[.int .i64 W, .int .i64 H, .slice a n c, .int .i64 s, .slice ba N bc, .slice ga (aD W H s l).length gc, .slice none 0 0] by rw[hwa];exact Blk.new_ rfl)
 have FA:=aA (F1.out.ext (XW4.trans hxa))
 have z1:=X1.out.size
 have z3:w1.heap.size≤w3.heap.size:=(show Ext w1 w3 from z_x).size
 have z4:=XW4.size
 have PA:=aA ((P4.out.ext hxa).lower (base':=w.heap.size) (by(try simp only[World.size_drew]);omega))
 have GA:=aA ((O4.out.ext hxa).lower (base':=w.heap.size) (by(try simp only[World.size_drew]);omega))
 have XA:=aA ((X1.out.trans XW4).trans hxa)
 have za:=hxa.size
 have zb:w4.heap.size<wa.heap.size:=BB.out.lt
 rw[←hwa]
 obtain⟨bb,hbb⟩: ∃z,w4.heap.size=z:=⟨_,rfl⟩
 rw[hbb]at BB zb⊢
 have hbw:w.heap.size<bb:=by have:=F1.out.lt;omega
 obtain⟨gl,hgl⟩: ∃z,(aD W H s l).length=z:=⟨_,rfl⟩
 have LG:=aA hgl
 rw[hgl]at BB GA⊢
 clear hK0 hwa hxa XW4 O4 P4 O3 x3 x4 hbb hgl z4 z3 za x0 x1 x2 xz F1 X1
 go_wp2_with fail
 go_loopw [6] (fun iv wr=> ∃k:Nat,k≤N∧iv= .int .i64 (k:Int)∧Touch (fun j=>j=bb) wa wr∧ ∃(tv:Value) (ts:List (Sl×Sl)) (R2:Nat→Prop),Blk wr bb 115 #[.int .i64 W, .int .i64 H, .slice a n c, .int .i64 s, .slice ba N bc, .slice ga gl gc,tv]∧Own tabE wr wa.heap.size 121 tv ts∧TabsR R2 wr ts (pJ W H s l k)∧(∀q,R2 q→wa.heap.size≤q∧q<wr.heap.size)∧ ∀q,tv.ownBlock=some q→ ¬R2 q) (fun iv _=>N-(intOf iv).toNat)
 case atStart=>exact⟨0,Nat.zero_le _,rfl,Touch.refl _ _,_,[],fun _=>False,BB.out,Own.nil _ _ _ _,⟨rfl,fun i x y h=>by simp at h⟩,(fun q h=>h.elim),fun q h=>by cases h⟩
 obtain⟨k,hk,rfl,ht,tv,ts,R2,hb,hot,htr,hr2,hor⟩:=hrel
 have TT:=aA ht
 have BR:=aA hb
 have OT:=aA hot
 have TR:=aA htr
 have R2B:=aA hr2
 have R2O:=aA hor
 have XR:=aA (XA.out.of_below (Touch.to_below (B:=w.heap.size) ht XA.out.size (fun k e=>by omega)) (Nat.le_refl _))
 have zr:=ht.size
 have FR:=aA (FA.out.touch ht (by omega))
 have PR:=aA (PA.out.touch ht (fun q hq e=>by have h:=BB.out.ne_own PA.out (by decide);rw[←e]at h;exact h hq))
 have GR:=aA (GA.out.touch ht (fun q hq e=>by have h:=BB.out.ne_own GA.out (by decide);rw[←e]at h;exact h hq))
 clear ht hb hot htr hr2 hor
 have b4:=BR.out.at 4 rfl
 have b5:=BR.out.at 5 rfl
 have b6:=BR.out.at 6 rfl
 have bz:=BR.out.lt
 by_cases hlt:k<N
 ·obtain⟨pb,rfl,hpb,p0,p1,p2,p3⟩:=lZ PR.out (HAT.out k hlt)
  have jk:(k:Int)<(N:Int):=by omega
  have HTLk:=aA (HTL.out k hlt)
  have HTS:=aA (aEz W H s l k)
  have HTOk:=aA (fun(w':World) (ca:Option Addr) (cc:Nat) (x:Ext w w') (h1:RowC w' ca (bR W H s l (k:Int))) (h2:ca=none→cc=0)=>HTO.out w' k ca cc x hlt h1 h2)
  have HCEk:=aA (fun(w':World) (v:Value) (o:Reads aT w' v (aD W H s l))=>HCE.out w' v k hlt o)
  rw[show(bJ W H s (k:Int)).1.1=aR W s (k:Int) from rfl]at p0
  rw[show(bJ W H s (k:Int)).1.2=aO W s (k:Int) from rfl]at p1
  rw[show(bJ W H s (k:Int)).2.1=aZ W s (k:Int) from rfl]at p2
  rw[show(bJ W H s (k:Int)).2.2=bA W H s (k:Int) from rfl]at p3
  have HTCk:=aA (HTC.out k)
  generalize aR W s (k:Int)=qx at *
  generalize aO W s (k:Int)=qy at *
  generalize aZ W s (k:Int)=qw at *
  generalize bA W H s (k:Int)=qh at *
  obtain⟨t,htk⟩: ∃z,dK W H s l (k:Int)=z:=⟨_,rfl⟩
  obtain⟨cl,hcl⟩: ∃z,bR W H s l (k:Int)=z:=⟨_,rfl⟩
  rw[htk]at HTS HTOk HTLk HTCk
  rw[hcl]at HTOk HCEk HTCk
  obtain⟨u,hu⟩: ∃z,cl.length=z:=⟨_,rfl⟩
  obtain⟨v,hv⟩: ∃z,t.2.length=z:=⟨_,rfl⟩
  have HU:=aA hu
  have HV:=aA hv
  have HTL2:=aA (show ts.length=k by rw[TR.out.1,wX])
  rw[hu]at HTOk
  clear htk hcl hu hv
  go_wp2_with fail
  have f0:=FR.out.at 0 rfl;have f1:=FR.out.at 1 rfl;have f2:=FR.out.at 2 rfl;have fz:=FR.out.lt
  have S0:=aA (show CellsAt [(⟨bb,6,none⟩,tv),(⟨bb,4,none⟩, .slice (some ⟨pb,0,none⟩) N bc),(⟨bb,5,none⟩, .slice ga gl gc),(⟨w.heap.size,0,none⟩, .int .i64 W),(⟨w.heap.size,1,none⟩, .int .i64 H),(⟨w.heap.size,2,none⟩, .slice a n c),(⟨pb,k*4,none⟩, .int .i64 qx),(⟨pb,k*4+1,none⟩, .int .i64 qy),(⟨pb,k*4+2,none⟩, .int .i64 qw),(⟨pb,k*4+3,none⟩, .int .i64 qh)] wr from⟨b6,b4,b5,f0,f1,f2,p0,p1,p2,p3,trivial⟩)
  have zbb:bb<wr.heap.size:=BR.out.lt
  have hpo:=(aF PA.out (k:=pb) rfl).2
  refine jW (S:=(CellsAt [(⟨bb,6,none⟩,tv),(⟨bb,4,none⟩, .slice (some ⟨pb,0,none⟩) N bc),(⟨bb,5,none⟩, .slice ga gl gc),(⟨w.heap.size,0,none⟩, .int .i64 W),(⟨w.heap.size,1,none⟩, .int .i64 H),(⟨w.heap.size,2,none⟩, .slice a n c),(⟨pb,k*4,none⟩, .int .i64 qx),(⟨pb,k*4+1,none⟩, .int .i64 qy),(⟨pb,k*4+2,none⟩, .int .i64 qw),(⟨pb,k*4+3,none⟩, .int .i64 qh)])) 30 [(0,true),(1,true),(2,true),(3,true),(4,true),(5,true),(6,true),(7,true),(8,true),(9,true),(10,true),(11,true),(12,true),(13,true),(14,true),(15,true),(16,true),(17,true),(18,true),(19,true),(20,true),(21,true),(22,true),(23,true),(24,false),(25,false),(26,false),(27,false),(28,true),(29,true),(30,false)] (by kernel_rfl) (by kernel_rfl) (by kernel_rfl) (by decide) (fun _ _ d _ _ h=>by cases d<;>exact h) (CellsAt.ext ((Ext.refl _).drew) S0.out) (fun hK0=> ?_)
  iterate 24 (refine SeqR.fr2 ?_;try simp only[zz])
  (apply SeqR.step;(·(simp only[z_0,z_1,z_2];rfl));intro K hK;go_simp;refine(HCEk.out _ _ (GR.out.reads.ext z_x)).mono ?_;rintro e w5 ⟨cv,rfl,x5,o5⟩;obtain⟨ca,cc,hcv⟩:=o5.slice;have hxw:Ext wr w5:=z_x;rw[hcv]at o5⊢;rw[HU.out]at o5⊢;have O5:=aA o5;have X5:=aA hxw;have S5:=aA (CellsAt.ext hxw S0.out);clear o5 x5 hxw hcv;go_wp2_with fail;refine hK.out _ _ (fun _=>(S5.out)) (fun hK0=> ?_);replace hK0:=hK0 (by decide);clear hK K;try simp only[zz])
  (apply SeqR.step;(·(simp only[z_0,z_1,z_2];rfl));intro K hK;go_simp;refine(HTOk.out _ ca cc (XR.out.trans (X5.out.trans z_x)) ((Reads.rowC O5.out.reads).2.ext z_x) (aBt O5.out)).mono ?_;rintro e w6 ⟨v1,v2,rfl,x6,o6,r6⟩;rw[HTCk.out]at o6;obtain⟨a81,c81,rfl⟩:=o6.slice;obtain⟨a82,c82,rfl,_⟩:=iR r6;rw[HU.out]at o6⊢;rw[HV.out]at r6⊢;have hx6:Ext wr w6:=X5.out.trans z_x;have X6:=aA hx6;have S6:=aA (CellsAt.ext hx6 S0.out);have O6:=aA (OT.out.ext hx6);have B6:=aA (BR.out.ext hx6);have T6:=aA ((TR.out.touch (Touch.of_ext (S:=fun _=>False) hx6) (fun _ _ x=>x)).mono (R':=fun q=>R2 q∨(wr.heap.size≤q∧q<w6.heap.size)) (fun q hq=> .inl hq));have z5:=X5.out.size;have N6:=aA (show TabR (fun q=>R2 q∨(wr.heap.size≤q∧q<w6.heap.size)) w6 ((a81,u,c81),(a82,v,c82)) t from⟨⟨by rw[HTCk.out];exact o6.lower (Nat.zero_le _),fun q hq=> .inr (by have h:=aF o6 hq;(try simp at h);omega)⟩,RowsR.of_at r6 (fun q h1 h2=> .inr ⟨by(try simp at h1);omega,h2⟩)⟩);have z6:=hx6.size;clear o6 r6 x6 hx6;go_wp2_with fail;refine hK.out _ _ (fun _=>(S6.out)) (fun hK0=> ?_);replace hK0:=hK0 (by decide);clear hK K;try simp only[zz])
  (apply SeqR.step;(·(simp only[z_0,z_1,z_2];rfl));intro K hK;go_simp;refine hK.out _ _ (fun _=>(CellsAt.ext z_x S6.out)) (fun hK0=> ?_);replace hK0:=hK0 (by decide);clear hK K;try simp only[zz])
  (apply SeqR.step;(·(simp only[z_0,z_1,z_2];rfl));intro K hK;refine fX tabE aIe (by rfl) _ _ (by rfl) wa.heap.size w6 tv ts (by rfl) O6.out ((a81,u,c81),(a82,v,c82)) _ _ (by rfl) _ (by rfl) (by rfl) (by rw[HTL2.out];omega) (by rw[HTL2.out];omega) (by omega) ?_;intro g9 c9 w9 o9 t9 l9;have O9:=aA o9;have L9:=aA l9;have hRt: ∀q,(R2 q∨(wr.heap.size≤q∧q<w6.heap.size))→ ¬tv.ownBlock=some q:=(fun q hq e=>hq.elim (fun h=>R2O.out q e h) (fun h=>(by have:=(aF OT.out e).2;omega)));have TS9:=aA ((T6.out.snoc N6.out).touch t9 hRt);have B9:=aA (B6.out.touch t9 (fun h=>Blk.ne_own B6.out O6.out (by decide) h));have S9:=aA (CellsAt.touch t9 (fun p hp h=>(by have hl:=(aF OT.out h);simp only[List.mem_cons,List.not_mem_nil,or_false]at hp;rcases hp with rfl|rfl|rfl|rfl|rfl|rfl|rfl|rfl|rfl|rfl<;>simp only at hl<;>omega)) S6.out);have T9:=aA ((TT.out.trans (Touch.of_ext X6.out)).after t9 (fun k hk h=>(by have hl:=(aF O6.out h).1;omega)));have z9:=t9.size;have h6:=B9.out.at 6 rfl;have ff6:=B9.out.frozen 6;clear o9 t9 l9;refine hK.out _ _ (fun _=>(S9.out)) (fun hK0=> ?_);replace hK0:=hK0 (by decide);clear hK K;try simp only[zz])
  iterate 2 (refine SeqR.fr2 ?_;try simp only[zz])
  (apply SeqR.step;(·(simp only[z_0,z_1,z_2];rfl));intro K hK;go_simp;refine hK.out _ _ (fun h=>absurd rfl h) (fun hK0=> ?_);clear hK K;try simp only[zz])
  refine SeqR.done ?_
  go_wp2_with fail
  have TB:Touch (fun j=>j=bb) w9 (w9.setCell ⟨bb,6,none⟩ (.slice (some ⟨g9,0,none⟩) (ts.length+1) c9)):=aMl w9 bb 6 _
  have TBH:=aA TB
  have zbs:=TB.size
  have hgb:g9≠bb:=fun e=>Blk.ne_own B9.out O9.out (by decide) (by rw[e];rfl)
  have hgw:wa.heap.size≤g9∧g9<w9.heap.size:=aF O9.out rfl
  clear TB
  go_roundw
  case rel=>
   refine⟨k+1,by omega,by go_num,T9.out.trans TBH.out,_,ts++[((a81,u,c81),(a82,v,c82))],fun q=>R2 q∨(wr.heap.size≤q∧q<w6.heap.size),B9.out.set_ 6 _,Own.touch O9.out TBH.out (fun q hq e=>by have:=rB hq;omega),?_,fun q hq=> ?_,fun q hq hR=> ?_⟩
   ·rw[HTS.out]
    exact TS9.out.touch TBH.out (fun q hq e=>hq.elim (fun h=>by have:=(R2B.out q h).1;omega) (fun h=>by omega))
   ·rcases hq with h|h
    ·have:=R2B.out q h;omega
    omega
   have e:=rB hq
   subst e
   rcases L9.out with h|h
   ·rcases hR with h2|h2
    ·exact R2O.out _ h h2
    have:=(aF OT.out h).2;omega
   rcases hR with h2|h2
   ·have:=(R2B.out _ h2).2;omega
   omega
  simp[intOf];omega
 obtain rfl:N=k:=by omega
 have hN1:1≤N:=by have:=HG.out.cnt;have:=HC.out;omega
 have htl:ts.length=N:=by rw[TR.out.1,wX]
 obtain⟨g,c9,hg⟩: ∃g c,tv= .slice (some ⟨g,0,none⟩) N c:=by
  rcases OT.out.2 with⟨_,h0⟩|⟨g,cap,cur,hv,_⟩
  ·omega
  exact⟨g,cap,by rw[hv,htl]⟩
 subst hg
 have hgw:=aF OT.out (k:=g) rfl
 have hza:=XA.out.size
 have hzr:=XR.out.size
 have HOT:=aA hgw
 clear htl hgw
 go_wp2_with fail
 go_ret
 refine⟨⟨bb,a,c, .slice ba N bc, .slice ga gl gc,g,c9⟩,rfl,XR.out,?_,rfl,rfl,by show w.heap.size≤bb;omega⟩
 show RefS wr _ _ W H s l (cnt W H s).toNat
 rw[HNT.out]
 exact {
  good:=HG.out
  num:=HC.out.symm
  blk:=by unfold gN;rw[HL.out];exact BR.out
  row:=HR.out.ext XR.out
  boxes:=PR.out.lower (Nat.zero_le _)
  gates:=GR.out.lower (Nat.zero_le _)
  tabs:=⟨ts,OT.out.lower (Nat.zero_le _),TR.out.mono fun q hq=> .inl (by have:=R2B.out q hq;omega)⟩
  inB:= .inl ⟨by show w.heap.size≤bb;omega,by show bb<wr.heap.size;omega⟩
  inA:=fun g o e=> .inr ⟨o,e⟩
  inBx:=fun q hq=> .inl (by have:=aF PR.out hq;omega)
  inG:=fun q hq=> .inl (by have:=aF GR.out hq;omega)
  inT:= .inl (by have:=HOT.out;show w.heap.size≤g∧g<wr.heap.size;omega)}
end Go.Proofs.YtaellcgglldjaaaGreat

namespace Go.Proofs.YtaellcgglldjaaaGreat
open Go.RowKit
def kF (W:Int) (P:aB→Bool) (j:Nat):List aB:=((List.range j).flatMap fun j:Nat=>fI 0 W (0+(j:Int))).filter P
def iP (y:Int) (P:aB→Bool) (i:Nat):List aB:=((List.range i).map fun i:Nat=>((0:Int)+(i:Int),y)).filter P
theorem aH3 (y:Int) (P:aB→Bool) (i:Nat):iP y P (i+1)=iP y P i++if P ((i:Int),y)=true then[((i:Int),y)] else[]:=by
 unfold iP
 rw[List.range_succ,List.map_append,List.filter_append]
 congr 1
 by_cases h:P ((i:Int),y)=true
 ·simp[h]
 simp[h]
theorem wG (W:Int) (P:aB→Bool) (j:Nat):kF W P (j+1)=kF W P j++iP (j:Int) P W.toNat:=by
 unfold kF iP
 rw[pO,List.filter_append,Int.zero_add]
 rfl
theorem zR (y:Int) (P:aB→Bool) (i:Nat):(iP y P i).length≤i:=by
 unfold iP
 exact Nat.le_trans (List.length_filter_le _ _) (by simp)
theorem aJp (W:Int) (P:aB→Bool) (j:Nat):(kF W P j).length≤j*W.toNat:=by
 induction j with
 |zero=>simp[kF]
 |succ j ih=>
  rw[wG,List.length_append,Nat.add_mul,Nat.one_mul]
  have:=zR (j:Int) P W.toNat
  omega
set_option maxRecDepth 100000 in
set_option maxHeartbeats 2000000 in
theorem aA4 {w:World} {q:gC} {R:Nat→Prop} {W H s:Int} {l:List Int} {NN:Nat} (h:RefS w q R W H s l NN) (f t:aB) (hgl:(aD W H s l).length≤50000):
  Calls Tryz.prog 23 #[.pointer (some ⟨q.b,0,none⟩), .agg #[.int .i64 f.1, .int .i64 f.2], .agg #[.int .i64 t.1, .int .i64 t.2]] w fun e w'=> ∃v,e= .returned v∧Ext w w'∧Own cellE w' w.heap.size 28 v (aN W H (aD W H s l) f t):=by
 obtain⟨hmay,hlw⟩:=checkE_ok.1 h.good.ok
 obtain⟨a1,a2,a3,a4⟩:=mayB_true.1 hmay
 have hll:=h.good.len
 obtain⟨ga,gc,hgv⟩:=h.gates.slice
 have HGR:=aA (show Reads aT w (.slice ga (aD W H s l).length gc) (aD W H s l) by rw[←hgv];exact h.gates.reads)
 have B:=aA h.blk
 unfold gN at B
 rw[hgv]at B
 generalize aD W H s l=L at *
 obtain⟨m,hm⟩: ∃m:Nat,W=(m:Int):=⟨W.toNat,by omega⟩
 obtain⟨n,hn⟩: ∃n:Nat,H=(n:Int):=⟨H.toNat,by omega⟩
 subst hm hn
 have hmn:n*m≤65536:=by
  have:((n*m:Nat):Int)=(m:Int)*(n:Int):=by rw[Int.natCast_mul,Int.mul_comm]
  omega
 have HA:Hid (0<L.length→ ∃b off,ga=some ⟨b,off,none⟩∧b<w.heap.size∧PairsAt w b off L):=aA (fun hp=>by
  rcases HGR.out with⟨_,rfl⟩|⟨b,off,cap,hv,hb,hc⟩
  ·simp at hp
  injection hv with e1 e2 e3
  subst e1
  exact⟨b,off,rfl,hb,(Reads.pairs (.inr ⟨b,off,cap,rfl,hb,hc⟩:Reads aT w (.slice (some ⟨b,off,none⟩) L.length cap) L)).2⟩)
 have HF:=aA (show aN (m:Int) (n:Int) L f t=kF (m:Int) (cE L f t) n by unfold aN kF gI;rw[Int.toNat_natCast])
 obtain⟨qb,hqb⟩: ∃z,q.b=z:=⟨_,rfl⟩
 rw[hqb]at B⊢
 obtain⟨fx,fy⟩:=f
 obtain⟨tx,ty⟩:=t
 have hm1:m≤65536:=by omega
 have hn1:n≤65536:=by omega
 clear h hmay hlw a1 a2 a3 a4 hll hgv hqb HGR
 simp only
 go_enter Tryz.func23,Tryz.ntmps23
 go_upto_region 1 with(fail)
 obtain⟨w1,hw1⟩: ∃z,z=(w.alloc (.cells #[.int .i64 fx, .int .i64 fy] 28)).alloc (.cells #[.int .i64 tx, .int .i64 ty] 28):=⟨_,rfl⟩
 have X1:=aA (show Ext w w1 by rw[hw1];exact((Ext.refl _).alloc _).alloc _)
 have F1:=aA (show Blk w1 w.heap.size 28 #[.int .i64 fx, .int .i64 fy] by rw[hw1];exact(Blk.new_ rfl).over)
 have T1:=aA (show Blk w1 (w.heap.size+1) 28 #[.int .i64 tx, .int .i64 ty] by rw[hw1];exact Blk.new_ (by simp))
 have B1:=aA (B.out.ext X1.out)
 rw[←hw1]
 obtain⟨fb,hfb⟩: ∃z,w.heap.size=z:=⟨_,rfl⟩
 have zw1:w.heap.size≤w1.heap.size:=X1.out.size
 rw[hfb]at F1 T1⊢
 clear hw1 hfb
 go_wp2_with fail
 have OB:Hid (Own cellE (w1.alloc (.cells #[] 28)) w1.heap.size 28 (.slice (some ⟨w1.heap.size,0,none⟩) 0 0) []):=aA (Own.lit0 cellE w1 _ _ _ rfl (Nat.le_refl _))
 have XB:Hid (Ext w1 (w1.alloc (.cells #[] 28))):=aA ((Ext.refl _).alloc _)
 go_loopw [7,8] (fun o y wr=> ∃j:Nat,y= .int .i64 (j:Int)∧j≤n∧Ext w1 wr∧Own cellE wr w1.heap.size 28 o (kF (m:Int) (cE L (fx,fy) (tx,ty)) j)) (fun _ y _=>n-(intOf y).toNat)
 case atStart=>exact⟨0,rfl,Nat.zero_le _,XB.out,OB.out⟩
 obtain⟨j,rfl,hj,hx,ho⟩:=hrel
 have HX:=aA hx
 have HO:=aA ho
 have BBr:=aA (B1.out.ext hx)
 have HLj:=aA (aJp (m:Int) (cE L (fx,fy) (tx,ty)) j)
 rw[Int.toNat_natCast]at HLj
 have p0:=BBr.out.at 0 rfl;have p1:=BBr.out.at 1 rfl;have p2:=BBr.out.at 2 rfl;have p3:=BBr.out.at 3 rfl;have p4:=BBr.out.at 4 rfl;have p5:=BBr.out.at 5 rfl;have pz:=BBr.out.lt
 clear hx ho XB OB
 by_cases hlt:j<n
 ·have hlt':(j:Int)<(n:Int):=by omega
  have HRS:=aA (wG (m:Int) (cE L (fx,fy) (tx,ty)) j)
  rw[Int.toNat_natCast]at HRS
  go_wp2_with fail
  go_loopw [7,9] (fun o x wy=> ∃i:Nat,x= .int .i64 (i:Int)∧i≤m∧Ext w1 wy∧Own cellE wy w1.heap.size 28 o (kF (m:Int) (cE L (fx,fy) (tx,ty)) j++iP (j:Int) (cE L (fx,fy) (tx,ty)) i)) (fun _ x _=>m-(intOf x).toNat)
  case atStart=>exact⟨0,rfl,Nat.zero_le _,HX.out,by simpa [iP] using HO.out⟩
  obtain⟨i,rfl,hi,hx,ho⟩:=hrel
  have HXi:=aA hx
  have HOi:=aA ho
  have BBi:=aA (B1.out.ext hx)
  have FBi:=aA (F1.out.ext hx)
  have TBi:=aA (T1.out.ext hx)
  have hzi:w1.heap.size≤wr.heap.size:=hx.size
  have HLi:=aA (zR (j:Int) (cE L (fx,fy) (tx,ty)) i)
  have q0:=BBi.out.at 0 rfl;have q1:=BBi.out.at 1 rfl;have q2:=BBi.out.at 2 rfl;have q3:=BBi.out.at 3 rfl;have q4:=BBi.out.at 4 rfl;have q5:=BBi.out.at 5 rfl;have qz:=BBi.out.lt
  clear hx ho HO HX BBr p0 p1 p2 p3 p4 p5 pz
  by_cases hlti:i<m
  ·have hlti':(i:Int)<(m:Int):=by omega
   have HCS:=aA (aH3 (j:Int) (cE L (fx,fy) (tx,ty)) i)
   go_upto_region 9 with(fail)
   clear q0 q1 q2 q3 q4 q5 qz
   obtain⟨wc,hwc⟩: ∃z,z=wr.alloc (.cells #[.int .i64 (i:Int), .int .i64 (j:Int)] 28):=⟨_,rfl⟩
   have xc:Ext wr wc:=by rw[hwc];exact(Ext.refl _).alloc _
   have BC:=aA (show Blk wc wr.heap.size 28 #[.int .i64 (i:Int), .int .i64 (j:Int)] by rw[hwc];exact Blk.new_ rfl)
   have XC:=aA (show Ext w1 wc from HXi.out.trans xc)
   have OC:=aA (HOi.out.ext xc)
   have FC:=aA (FBi.out.ext xc)
   have TC:=aA (TBi.out.ext xc)
   rw[←hwc]
   obtain⟨g,hg⟩: ∃g,wr.heap.size=g:=⟨_,rfl⟩
   rw[hg]at BC⊢
   clear hwc hg hzi BBi HXi HOi FBi TBi xc
   have r0:=BC.out.at 0 rfl;have r1:=BC.out.at 1 rfl;have rz:=BC.out.lt
   have c0:=FC.out.at 0 rfl;have c1:=FC.out.at 1 rfl;have cz:=FC.out.lt
   have d0:=TC.out.at 0 rfl;have d1:=TC.out.at 1 rfl;have dz:=TC.out.lt
   have hE1:=fun(w:World)=>bC ((i:Int),(j:Int)) (fx,fy) w
   have hE2:=fun(w:World)=>bC ((i:Int),(j:Int)) (tx,ty) w
   simp only at hE1 hE2
   have HST:Hid (cE [] (fx,fy) (tx,ty) ((i:Int),(j:Int))=(cK ((i:Int),(j:Int)) (fx,fy)||cK ((i:Int),(j:Int)) (tx,ty))):=aA (by
    unfold cE
    rw[bB,bB]
    simp[gIn])
   have HTKq:Hid (∀(k:Nat) (g:aB×aB),L[k]? =some g→cE (L.take (k+1)) (fx,fy) (tx,ty) ((i:Int),(j:Int))=(cE (L.take k) (fx,fy) (tx,ty) ((i:Int),(j:Int))||(cK g.1 ((i:Int),(j:Int))||cK g.2 ((i:Int),(j:Int))))):=aA (fun k g hg=>by
    unfold cE
    rw[vU hg]
    simp only[Bool.or_assoc])
   have hst:(cK ((i:Int),(j:Int)) (fx,fy)=true)∨(cK ((i:Int),(j:Int)) (fx,fy)=false):=by cases cK ((i:Int),(j:Int)) (fx,fy)<;>simp
   rcases hst with hst|hst
   all_goals
    rw[hst]at hE1 HST
    generalize cK ((i:Int),(j:Int)) (tx,ty)=e2 at *
    clear hst
    go_wp2_with fail
    clear c0 c1 cz d0 d1 dz hE1 hE2
    go_loopw [11,12] (fun s qv wz=> ∃q:Nat,qv= .int .i64 (q:Int)∧q≤L.length∧s= .bool (cE (L.take q) (fx,fy) (tx,ty) ((i:Int),(j:Int)))∧Ext wc wz) (fun _ qv _=>L.length-(intOf qv).toNat)
    case atStart=>exact⟨0,rfl,Nat.zero_le _,by rw[List.take_zero,HST.out];rfl,Ext.refl _⟩
    obtain⟨q,rfl,hq,rfl,hx⟩:=hrel
    have HXq:=aA hx
    have BCr:=aA (BC.out.ext hx)
    have BQ:=aA (B1.out.ext (XC.out.trans hx))
    clear r0 r1 rz
    have r0:=BCr.out.at 0 rfl;have r1:=BCr.out.at 1 rfl;have rz:=BCr.out.lt
    have y0:=BQ.out.at 0 rfl;have y1:=BQ.out.at 1 rfl;have y2:=BQ.out.at 2 rfl;have y3:=BQ.out.at 3 rfl;have y4:=BQ.out.at 4 rfl;have y5:=BQ.out.at 5 rfl;have yz:=BQ.out.lt
    clear hx
    by_cases hltq:q<L.length
    ·obtain⟨b,off,rfl,hb,hP⟩:=HA.out (by omega)
     have hgq:L[q]? =some L[q]:=zG hltq
     obtain⟨d0,d1,d2,d3⟩:=hP q hltq
     have XW:=aA ((X1.out.trans XC.out).trans HXq.out)
     have e0:=(XW.out.cell (p:=⟨b,off+q*4,none⟩) hb).trans d0
     have e1:=(XW.out.cell (p:=⟨b,off+q*4+1,none⟩) hb).trans d1
     have e2':=(XW.out.cell (p:=⟨b,off+q*4+2,none⟩) hb).trans d2
     have e3:=(XW.out.cell (p:=⟨b,off+q*4+3,none⟩) hb).trans d3
     obtain⟨u,hu⟩: ∃u,L[q]=u:=⟨_,rfl⟩
     rw[hu]at hgq e0 e1 e2' e3
     obtain⟨⟨ua,ub⟩,⟨uc,ud⟩⟩:=u
     have HTK:=aA (HTKq.out q _ hgq)
     simp only at e0 e1 e2' e3
     have hbz:b<wr.heap.size:=Nat.lt_of_lt_of_le hb XW.out.size
     have hqi:(q:Int)<(L.length:Int):=by omega
     have hA1:=fun(w:World)=>bC (ua,ub) ((i:Int),(j:Int)) w
     have hB1:=fun(w:World)=>bC (uc,ud) ((i:Int),(j:Int)) w
     simp only at hA1 hB1
     clear d0 d1 d2 d3 hP hgq hu
     cases hs:cE (L.take q) (fx,fy) (tx,ty) ((i:Int),(j:Int))
     ·rw[hs]at HTK
      cases ha:cK (ua,ub) ((i:Int),(j:Int))
      ·rw[ha]at hA1 HTK
       generalize cK (uc,ud) ((i:Int),(j:Int))=cb at *
       go_wp2_with fail
       refine aS wr [(0,true),(1,true),(2,true),(3,true),(4,true),(5,true),(6,true),(7,true),(8,true),(9,true),(10,true),(11,true),(12,true),(13,true),(14,true),(15,true),(16,true),(17,true),(18,true),(19,true),(20,true),(21,true),(22,true),(23,true),(24,true),(25,true)] (fun hK0=> ?_)
       iterate 26 (refine SeqH.fr1 ?_;try simp only[zz])
       refine SeqH.done ?_
       clear hK0
       go_wp2
       go_roundw
       case rel=>exact⟨q+1,by go_num,by omega,by rw[HTK.out];simp,HXq.out.drew⟩
       simp[intOf];omega
      rw[ha]at hA1 HTK
      go_wp2_with fail
      refine aS wr [(0,true),(1,true),(2,true),(3,true),(4,true),(5,true),(6,true),(7,true),(8,true),(9,true),(10,true),(11,true),(12,true),(13,true),(14,true),(15,true),(16,true),(17,true),(18,true),(19,true),(20,true),(21,true),(22,true),(23,true),(24,true),(25,true)] (fun hK0=> ?_)
      iterate 26 (refine SeqH.fr1 ?_;try simp only[zz])
      refine SeqH.done ?_
      clear hK0
      go_wp2
      go_roundw
      case rel=>exact⟨q+1,by go_num,by omega,by rw[HTK.out];simp,HXq.out.drew⟩
      simp[intOf];omega
     rw[hs]at HTK
     go_wp2_with fail
     refine aS wr [(0,true),(1,true),(2,true),(3,true),(4,true),(5,true),(6,true),(7,true),(8,true),(9,true),(10,true),(11,true),(12,true),(13,true),(14,true),(15,true),(16,true),(17,true),(18,true),(19,true),(20,true),(21,true),(22,true),(23,true),(24,true),(25,true)] (fun hK0=> ?_)
     iterate 26 (refine SeqH.fr1 ?_;try simp only[zz])
     refine SeqH.done ?_
     clear hK0
     go_wp2
     go_roundw
     case rel=>exact⟨q+1,by go_num,by omega,by rw[HTK.out];simp,HXq.out.drew⟩
     simp[intOf];omega
    obtain rfl:q=L.length:=by omega
    rw[List.take_of_length_le (Nat.le_refl _)]
    have XR:=aA (XC.out.trans HXq.out)
    have OR:=aA (OC.out.ext HXq.out)
    have hzr:w1.heap.size≤wr.heap.size:=XR.out.size
    obtain⟨ar,cr,har⟩:=OR.out.slice
    subst har
    have hll:(kF (m:Int) (cE L (fx,fy) (tx,ty)) j++iP (j:Int) (cE L (fx,fy) (tx,ty)) i).length≤2000000:=by
     have h1:=HLj.out
     have h2:=HLi.out
     rw[List.length_append]
     have h3:j*m≤n*m:=Nat.mul_le_mul_right _ (by omega)
     omega
    cases hs:cE L (fx,fy) (tx,ty) ((i:Int),(j:Int))
    ·have HE:=aA (show iP (j:Int) (cE L (fx,fy) (tx,ty)) (i+1)=iP (j:Int) (cE L (fx,fy) (tx,ty)) i by rw[HCS.out,hs];simp)
     go_wp2
     go_roundw
     case rel=>exact⟨i+1,by go_num,by omega,XR.out,by rw[HE.out];exact OR.out⟩
     simp[intOf];omega
    have HE:=aA (show kF (m:Int) (cE L (fx,fy) (tx,ty)) j++iP (j:Int) (cE L (fx,fy) (tx,ty)) (i+1)=(kF (m:Int) (cE L (fx,fy) (tx,ty)) j++iP (j:Int) (cE L (fx,fy) (tx,ty)) i)++[((i:Int),(j:Int))] by rw[HCS.out,hs,List.append_assoc];simp)
    generalize kF (m:Int) (cE L (fx,fy) (tx,ty)) j++iP (j:Int) (cE L (fx,fy) (tx,ty)) i=R at *
    go_wp2_with (at_builtin;refine dD cellE T_cellsG rfl _ _ rfl w1.heap.size _ _ R rfl OR.out ((i:Int),(j:Int)) _ _ rfl _ rfl rfl (by omega) (by omega) (by omega) ?_;intro g9 c9 w9 o9 t9 l9;have O9:=aA o9;have T9:=aA t9;clear o9 t9 l9)
    go_roundw
    case rel=>exact⟨i+1,by go_num,by omega,XR.out.of_below (T9.out.to_below (by omega) (fun z hz=>(aF OR.out hz).1)) (Nat.le_refl _),by rw[HE.out];exact O9.out⟩
    simp[intOf];omega
  obtain rfl:i=m:=by omega
  go_wp2
  go_roundw
  case rel=>exact⟨j+1,by go_num,by omega,HXi.out,by rw[HRS.out];exact HOi.out⟩
  simp[intOf];omega
 obtain rfl:j=n:=by omega
 obtain⟨ao,co,hao⟩:=HO.out.slice
 subst hao
 go_wp2
 go_ret
 exact⟨_,rfl,X1.out.trans HX.out,by rw[HF.out];exact HO.out.lower X1.out.size⟩
end Go.Proofs.YtaellcgglldjaaaGreat

namespace Go.Proofs.YtaellcgglldjaaaGreat
open Go.RowKit
set_option maxHeartbeats 1000000 in
theorem aLo (b off c:Nat) (l:List (aB×aB)) (x y:Int) (w:World) (hl:l.length≤1000000) (hb:b<w.heap.size) (h1:PairsAt w b off l) (hn:xT l) (hx:InI x) (hy:InI y):
  Calls Tryz.prog 57 #[.slice (some ⟨b,off,none⟩) l.length c, .agg #[.int .i64 x, .int .i64 y]] w fun e w'=>e= .returned (.int .i64 (fOf l x y))∧Ext w w':=by
 have H1:=aA h1
 have HN:=aA hn
 have HX:=aA hx
 have HY:=aA hy
 clear h1 hn hx hy
 go_enter Tryz.func57,Tryz.ntmps57
 go_wp2
 obtain⟨w0,hw0⟩: ∃w0,w0=w.alloc (.cells #[.int .i64 x, .int .i64 y] 28):=⟨_,rfl⟩
 have hx0:Ext w w0:=by rw[hw0];exact z_x
 have c0:w0.cell? ⟨w.heap.size,0,none⟩=some (.int .i64 x):=by rw[hw0];simp[go_sem]
 have c1:w0.cell? ⟨w.heap.size,1,none⟩=some (.int .i64 y):=by rw[hw0];simp[go_sem]
 have z0:w.heap.size<w0.heap.size:=by rw[hw0];simp
 rw[←hw0]
 clear hw0
 go_loopw [5] (fun i wr=> ∃k:Nat,k≤l.length∧i= .int .i64 k∧(∀j (hj:j<k) (hj':j<l.length),dE x y l[j]=false)∧Ext w0 wr) (fun i _=>l.length-(intOf i).toNat)
 case atStart=>exact⟨0,Nat.zero_le _,rfl,fun j hj=>by omega,Ext.refl _⟩
 obtain⟨k,hk,rfl,hall,hext⟩:=hrel
 have HA:=aA hall
 clear hall
 have e0:=(hext.cell (p:=⟨w.heap.size,0,none⟩) z0).trans c0
 have e1:=(hext.cell (p:=⟨w.heap.size,1,none⟩) z0).trans c1
 have hz:=hext.size
 have zb:b<wr.heap.size:=by omega
 have zw:w.heap.size<wr.heap.size:=by omega
 by_cases hlt:k<l.length
 ·obtain⟨d1,d2,d3,d4⟩:=((H1.out.ext hb hx0).ext (by omega) hext) k hlt
  obtain⟨n1,n2⟩:=HN.out k hlt
  cases hh:bO l[k].1.1 l[k].1.2 l[k].2.1 l[k].2.2 x y
  all_goals
   go_wp2
   go_region_held3 (fun W=>(∀b o,b<wr.heap.size→W.cell? ⟨b,o,none⟩=wr.cell? ⟨b,o,none⟩)∧Ext wr W) (first|with_reducible exact bG _|exact aI z_x)
    (first|(go_at_call 103;refine(pE l[k].1.1 l[k].1.2 l[k].2.1 l[k].2.2 x y _ n1 n2 HX.out HY.out).mono ?_;rintro e w1 ⟨rfl,hb1⟩))
  ·go_wp2
   go_roundw
   case rel=>exact⟨k+1,by omega,by go_num,fun j hj hj'=>by
         by_cases e:j=k
         ·subst e;exact hh
         exact HA.out j (by omega) hj',z_x⟩
   simp[intOf];omega
  go_wp2
  go_ret
  exact⟨by unfold fOf;rw[uM hlt (fun j hj=>HA.out j hj (by omega)) hh];rfl,z_x⟩
 go_wp2
 go_ret
 exact⟨by unfold fOf;rw[vX (fun j hj=>HA.out j (by omega) hj)];rfl,z_x⟩
theorem uT (v:Value) (l:List (aB×aB)) (x y:Int) (w:World) (hl:l.length≤1000000) (h0:0<l.length) (hr:Reads aT w v l) (hn:xT l) (hx:InI x) (hy:InI y):
  Calls Tryz.prog 57 #[v, .agg #[.int .i64 x, .int .i64 y]] w fun e w'=>e= .returned (.int .i64 (fOf l x y))∧Ext w w':=by
 rcases hr with⟨rfl,rfl⟩|⟨b,off,c,rfl,hb1,hc⟩
 ·simp at h0
 have i1:=(Reads.pairs (.inr ⟨b,off,c,rfl,hb1,hc⟩:Reads aT w (.slice (some ⟨b,off,none⟩) l.length c) l)).2
 exact aLo b off c l x y w hl hb1 i1 hn hx hy
end Go.Proofs.YtaellcgglldjaaaGreat

