/- Part of a proof: HierEe. -/
import Derived.Test.YtaellcgglldjaaaGreatHierFindsQ32
import Derived.Test.YtaellcgglldjaaaGreatHierFindsQ39
import Derived.Test.YtaellcgglldjaaaGreatHierFindsQ07
set_option linter.all false
set_option linter.unusedVariables false
set_option linter.unusedSimpArgs false
namespace Go.Proofs.YtaellcgglldjaaaGreat
open Go.RowKit
def gD (W:Int) (NL:List aB) (v:Nat→Nat) (s0:Nat) (base gs gg gc m:Nat) (A:AS) (w:World):Prop:= ∃cm,RowsH w base gs gg gc m v A cm∧CameL W NL v s0 A cm
theorem kZ {w:World} {base g m:Nat} {t0:TypeId} {cm:List nL} (h:Own legE w base t0 (.slice (some ⟨g,0,none⟩) m m) cm) {i:Nat} (hi:i<cm.length) {t:Nat} (ht:t<5):(∃z,w.cell? ⟨g,i*5+t,none⟩=some z)∧w.frozen? ⟨g,i*5+t,none⟩=false:=by
 obtain⟨a',c',e'⟩:=h.slice
 have en:m=cm.length:=by injection e'
 have h':w.ownsRow base t0 5 (.slice (some ⟨g,0,none⟩) m m) cm.length (cm.flatMap legE.cells):=h
 refine⟨?_,?_⟩
 ·have hk:=zG hi
  obtain⟨u,hu⟩: ∃u,(legE.cells (cm[i]'hi))[t]? =some u:=⟨_,zG (by rw[legE.len (cm[i]'hi)];exact ht)⟩
  have h1:=(Reads.cells h.reads).2.2 i _ hk t u hu
  rw[Nat.zero_add]at h1
  exact⟨u,h1⟩
 subst en
 exact h'.frozenAt _
theorem aDq {came:Nat→Int} {wR:Nat→Nat→List aB} {acc wp:List aB} {ch:List Nat} {a b:Nat} (hc:Chain came b ch) (h1:came b=(a:Int)) (hp:fH wR acc ch=wp): ∃ch2:List Nat,ch.length=ch2.length+1∧Chain came a ch2∧fH wR (wR a b++acc) ch2=wp:=by
 cases hc with
 |stop h=>omega
 | @go _ u r h h2=>
  obtain rfl:u=a:=by omega
  refine⟨r,rfl,h2,?_⟩
  rw[←hp]
  cases h2<;>rfl
def sZ:AS:={st:=fun _=>0,g:=fun _=>0,came:=fun _=>0,cnt:=0}
set_option maxRecDepth 100000 in
set_option maxHeartbeats 32000000 in
theorem aA2 {w:World} {q:gC} {R:Nat→Prop} {W H s:Int} {l:List Int} {NN:Nat} (h:RefS w q R W H s l NN) (hl:l.length≤150) {fx fy tx ty b:Int} (hf:inB W H fx fy=true) (ht:inB W H tx ty=true) (hz1:0<aL l W (fx,fy)) (hz2:0<aL l W (tx,ty)):
  Calls Tryz.prog 14 #[.pointer (some ⟨q.b,0,none⟩), .agg #[.int .i64 fx, .int .i64 fy], .agg #[.int .i64 tx, .int .i64 ty], .int .i64 b] w fun e w'=>Ext w w'∧
   ∃(p:List aB) (cc k er:Int) (v:Value),LRun (hGr h.good hl (fx,fy) (tx,ty)) W (aC W (tx,ty)) b (eB W H s l (fx,fy)) (aY (aC W (fx,fy))) p cc k er∧e= .returned (.tuple #[.agg #[v, .int .u64 cc, .int .i64 k], .int .i64 er])∧Own cellE w' w.heap.size 28 v p:=by
 have g:=h.good
 obtain⟨hmay,hlw⟩:=checkE_ok.1 g.ok
 have hgl:=vW g hl
 have HC1:=aA (fun(w':World) (x:Ext w w')=>(by have:=inB_true.1 hf;exact fM W H q.a l q.c fx fy w' hmay hlw (h.row.ext x) g.u16 (by omega) (by omega) (by omega) (by omega)))
 have HC2:=aA (fun(w':World) (x:Ext w w')=>(by have:=inB_true.1 ht;exact fM W H q.a l q.c tx ty w' hmay hlw (h.row.ext x) g.u16 (by omega) (by omega) (by omega) (by omega)))
 have HND:=aA (fun(w':World) (x:Ext w w')=>aA4 (h.ext x) (fx,fy) (tx,ty) (by omega))
 have hnf:=aH4 g (f:=(fx,fy)) (t:=(tx,ty))
 have HLG:=aA (fun(w':World) (x:Ext w w') (a:aB) (ha:inB W H a.1 a.2=true) (na:Option Addr) (nc:Nat) (hn:RowC w' na (aN W H (aD W H s l) (fx,fy) (tx,ty)))=>aBw (h.ext x) (fx,fy) (tx,ty) a ha (by omega) nc hn (by omega))
 have HWY:=aA (fun(w':World) (x:Ext w w') (a c:aB) (y:Int) (ha:inB W H a.1 a.2=true) (hc:inB W H c.1 c.2=true) (hd:ofN W s c.1 c.2=ofN W s a.1 a.2→cA W H s l a c≠aJ)=>aEp (h.ext x) a c y ha hc hd)
 have B0:=aA h.blk
 unfold gN at B0
 have I0:=aA (wV g hl (f:=(fx,fy)) hf (t:=(tx,ty)))
 have qe1:(aL l W (fx,fy)==0)=false:=by simp;omega
 have qe2:(aL l W (tx,ty)==0)=false:=by simp;omega
 obtain⟨c1,hc1⟩: ∃z,aL l W (fx,fy)=z:=⟨_,rfl⟩
 obtain⟨c2,hc2⟩: ∃z,aL l W (tx,ty)=z:=⟨_,rfl⟩
 rw[hc1]at HC1 qe1
 rw[hc2]at HC2 qe2
 have HG:=aA g
 have HGR:=aA (show ∃G,G=hGr g hl (fx,fy) (tx,ty) from⟨_,rfl⟩)
 have HFI:=aA hf
 have HTI:=aA ht
 have hm0:0<(aN W H (aD W H s l) (fx,fy) (tx,ty)).length:=List.length_pos_of_mem (nodesL_mem.2 ⟨by have:=inB_true.1 hf;exact⟨⟨by omega,by omega⟩,by omega,by omega⟩, .inl rfl⟩:(fx,fy)∈_)
 obtain⟨k0,hk0⟩:=List.mem_iff_getElem?.1 (show(fx,fy)∈aN W H (aD W H s l) (fx,fy) (tx,ty) from nodesL_mem.2 ⟨by have:=inB_true.1 hf;exact⟨⟨by omega,by omega⟩,by omega,by omega⟩, .inl rfl⟩)
 have HINJ:=aA (fun(i k:Nat) (hi:i<_) (hk:k<_)=>aH5 g (f:=(fx,fy)) (t:=(tx,ty)) (i:=i) (k:=k) hi hk)
 have HK0:=aA hk0
 have hk0l:=(zJ hk0).1
 have hv0:=nB (W:=W) hk0
 have HBS:=aA (fun(A:AS) (hop: ∀u,A.st u≠0→(hGr g hl (fx,fy) (tx,ty)).op u=true) (j:Nat) (hb:BestM A (nvN W (aN W H (aD W H s l) (fx,fy) (tx,ty))) (aN W H (aD W H s l) (fx,fy) (tx,ty)).length (some j))=>BestM.best g hl hop hb)
 have HBE:=aA (fun(A:AS) (hop: ∀u,A.st u≠0→(hGr g hl (fx,fy) (tx,ty)).op u=true) (hb:BestM A (nvN W (aN W H (aD W H s l) (fx,fy) (tx,ty))) (aN W H (aD W H s l) (fx,fy) (tx,ty)).length none) (u:Nat)=>BestM.empty g hl hop hb u)
 have HCL:=aA (fun(A:AS) (cm:List nL) (I:LInv (hGr g hl (fx,fy) (tx,ty)) (aC W (fx,fy)) A) (C:CameL W (aN W H (aD W H s l) (fx,fy) (tx,ty)) (nvN W (aN W H (aD W H s l) (fx,fy) (tx,ty))) (aC W (fx,fy)) A cm) (i:Nat) (c:aB) (hi:(aN W H (aD W H s l) (fx,fy) (tx,ty))[i]? =some c) (h0:A.st (aC W c)≠0) (hne:aC W c≠aC W (fx,fy))=>aIn g hl I C hi h0 hne)
 have HNI:=aA (fun(i:Nat) (c:aB) (hi:(aN W H (aD W H s l) (fx,fy) (tx,ty))[i]? =some c)=>(And.intro (dJ g (List.mem_of_getElem? hi)) (nB (W:=W) hi):inB W H c.1 c.2=true∧nvN W (aN W H (aD W H s l) (fx,fy) (tx,ty)) i=aC W c))
 have HLN:=aA (fun(c:aB)=>aGw g (f:=(fx,fy)) (t:=(tx,ty)) (a:=c))
 have HGN:=aA (show(hGr g hl (fx,fy) (tx,ty)).n=l.length from rfl)
 have HLS:=aA (fun(i:Nat) (c:aB) (hi:(aN W H (aD W H s l) (fx,fy) (tx,ty))[i]? =some c)=>(by
  have hci:=dJ g (List.mem_of_getElem? hi)
  refine⟨?_,fun q hq=> ?_⟩
  ·show iI W H s l (aD W H s l) (fx,fy) (tx,ty) (nvN W _ i)=_
   unfold iI
   rw[nB hi,bV hci]
  have hok:=kY g hl hci hq
  obtain⟨j,hj⟩:=List.mem_iff_getElem?.1 hok.1
  exact⟨⟨j,hj⟩,hok.2.2.1,hok.2.2.2.1⟩:(hGr g hl (fx,fy) (tx,ty)).legs (nvN W (aN W H (aD W H s l) (fx,fy) (tx,ty)) i)=(cB W H s l (aD W H s l) (fx,fy) (tx,ty) c).map (fun q=>(aC W q.1,q.2))∧ ∀q∈cB W H s l (aD W H s l) (fx,fy) (tx,ty) c,(∃j,(aN W H (aD W H s l) (fx,fy) (tx,ty))[j]? =some q.1)∧0<q.2∧q.2≤10000000))
 have hnl:l.length≤150:=hl
 obtain⟨NL,hNL⟩: ∃z,aN W H (aD W H s l) (fx,fy) (tx,ty)=z:=⟨_,rfl⟩
 have HNL:=aA hNL
 rw[hNL]at HND HLG hnf hm0 HINJ HK0 hk0l hv0 HBS HBE HCL HNI HLS
 obtain⟨m,hm⟩: ∃z,NL.length=z:=⟨_,rfl⟩
 have HM:=aA hm
 rw[hm]at HLG hnf hm0 HINJ hk0l HBS HBE
 obtain⟨v,hv⟩: ∃z,nvN W NL=z:=⟨_,rfl⟩
 have HV:=aA hv
 rw[hv]at HINJ hv0 HBS HBE HCL HNI HLS
 obtain⟨s0,hs0⟩: ∃z,aC W (fx,fy)=z:=⟨_,rfl⟩
 have HS0:=aA hs0
 rw[hs0]at I0 hv0 HCL⊢
 have HV0:=aA hv0
 obtain⟨n,hn⟩: ∃z,l.length=z:=⟨_,rfl⟩
 have HN:=aA hn
 rw[hn]at HC1 HC2 B0 hnf hnl HGN
 have HLN2:=aA (fun(c:aB)=>show(cB W H s l (aD W H s l) (fx,fy) (tx,ty) c).length≤50000 by have:=HLN.out c;omega)
 clear HLN
 obtain⟨qa,qc,qb,qbv,qgv,qtg,qtc,e1,e2,e3,e4,e5,e6,e7⟩: ∃(qa:Option Addr) (qc qb:Nat) (qbv qgv:Value) (qtg qtc:Nat),q.a=qa∧q.c=qc∧q.b=qb∧q.bv=qbv∧q.gv=qgv∧q.tg=qtg∧q.tc=qtc:=⟨_,_,_,_,_,_,_,rfl,rfl,rfl,rfl,rfl,rfl,rfl⟩
 rw[e1,e2]at HC1 HC2
 rw[e1,e2,e3,e4,e5,e6,e7]at B0
 rw[e3]at HND HLG HWY⊢
 obtain⟨GG,hGG⟩: ∃G,hGr h.good hl (fx,fy) (tx,ty)=G:=⟨_,rfl⟩
 have HLL:=aA hl
 have HGG:=aA (show hGr HG.out HLL.out (fx,fy) (tx,ty)=GG from hGG)
 rw[show hGr g hl (fx,fy) (tx,ty)=GG from hGG]at I0 HBS HBE HCL HGN HLS
 rw[hGG]
 clear h hmay hlw hgl hz1 hz2 hf ht hc1 hc2 hk0 hv0 hNL hm hv hs0 hn e1 e2 e3 e4 e5 e6 e7 hGG HGR g hl
 go_enter Tryz.func14,Tryz.ntmps14
 go_upto_region 1 with(fail)
 obtain⟨w1,hw1⟩: ∃z,z=((w.alloc (.cells #[.int .i64 fx, .int .i64 fy] 28)).alloc (.cells #[.int .i64 tx, .int .i64 ty] 28)).alloc (.cells #[.slice none 0 0, .int .u64 0, .int .i64 0] 43):=⟨_,rfl⟩
 have X1:=aA (show Ext w w1 by rw[hw1];exact(((Ext.refl _).alloc _).alloc _).alloc _)
 have F1:=aA (show Blk w1 w.heap.size 28 #[.int .i64 fx, .int .i64 fy] by rw[hw1];exact(Blk.new_ rfl).over.over)
 have T1:=aA (show Blk w1 (w.heap.size+1) 28 #[.int .i64 tx, .int .i64 ty] by rw[hw1];exact(Blk.new_ (by simp)).over)
 have R1:=aA (show Blk w1 (w.heap.size+1+1) 43 #[.slice none 0 0, .int .u64 0, .int .i64 0] by rw[hw1];exact Blk.new_ (by simp))
 have HZ1:=aA (show w1.heap.size=w.heap.size+3 by rw[hw1];simp)
 rw[←hw1]
 have B1:=aA (B0.out.ext X1.out)
 clear hw1 B0
 have b0:=B1.out.at 0 rfl;have b1:=B1.out.at 1 rfl;have b2:=B1.out.at 2 rfl;have b3:=B1.out.at 3 rfl;have b4:=B1.out.at 4 rfl;have b5:=B1.out.at 5 rfl;have b6:=B1.out.at 6 rfl;have bz:=B1.out.lt
 have f0:=F1.out.at 0 rfl;have f1:=F1.out.at 1 rfl;have fz:=F1.out.lt
 have t0:=T1.out.at 0 rfl;have t1:=T1.out.at 1 rfl;have tz:=T1.out.lt
 refine aS w1 [(0,true),(1,true),(2,true),(3,true),(4,true),(5,false),(6,true),(7,true),(8,true),(9,true),(10,true),(11,true),(12,true),(13,false),(14,true),(15,true)] (fun hK0=> ?_)
 iterate 5 (refine SeqH.fr1 ?_;try simp only[zz])
 (refine aP ?_;intro K hK;go_simp;refine(HC1.out _ (X1.out.trans z_x)).mono ?_;rintro e w2 ⟨rfl,x2⟩;go_wp2_with fail;refine hK.out _ _ (aI z_x) (fun hK0=> ?_);clear hK K;try simp only[zz])
 iterate 7 (refine SeqH.fr1 ?_;try simp only[zz])
 (refine aP ?_;intro K hK;go_simp;refine(HC2.out _ (X1.out.trans z_x)).mono ?_;rintro e w3 ⟨rfl,x3⟩;go_wp2_with fail;refine hK.out _ _ (aI z_x) (fun hK0=> ?_);clear hK K;try simp only[zz])
 iterate 2 (refine SeqH.fr1 ?_;try simp only[zz])
 refine SeqH.done ?_
 have X13:=aA hK0.2
 have X3:=aA (X1.out.trans X13.out)
 have F3:=aA (F1.out.ext X13.out)
 have T3:=aA (T1.out.ext X13.out)
 have R3:=aA (R1.out.ext X13.out)
 clear hK0 x2 x3 b0 b1 b2 b3 b4 b5 b6 bz f0 f1 fz t0 t1 tz HC1 HC2 F1 T1 R1 qe1 qe2 B1
 have f0:=F3.out.at 0 rfl;have f1:=F3.out.at 1 rfl;have fz:=F3.out.lt
 have t0:=T3.out.at 0 rfl;have t1:=T3.out.at 1 rfl;have tz:=T3.out.lt
 go_wp2_with fail
 refine(HND.out _ X3.out).mono ?_
 rintro e w4 ⟨vN,rfl,x4,oN⟩
 obtain⟨na,nc,rfl⟩:=oN.slice
 have X4:=aA (X3.out.trans x4)
 have F4:=aA (F3.out.ext x4)
 have T4:=aA (T3.out.ext x4)
 have R4:=aA (R3.out.ext x4)
 rw[HM.out]at oN⊢
 have ON:=aA oN
 have HZ4:=aA (show w.heap.size+3≤w4.heap.size from by have:=HZ1.out;have:=X13.out.size;have:=x4.size;omega)
 clear x4 oN f0 f1 fz t0 t1 tz F3 T3 R3 X1 X13 X3 HND HZ1
 go_wp2_with (at_make;refine jZ intE aId 0 rfl rfl rfl rfl _ _ rfl w4.heap.size m rfl rfl (by omega) (by decide) (Nat.le_refl _) ?_)
 intro gs w5 hgs hown5 hx5
 have HGS1:=aA hgs
 clear hgs
 have S5:=aA (show IntAt w5 w4.heap.size gs m (fun _=>0) m by unfold IntAt;rw[show bZ (fun _=>(0:Int)) m=List.replicate m 0 by unfold bZ;simp[List.map_const']];exact hown5)
 clear hown5
 go_wp2_with (at_make;refine jZ u64E T_u64s 0 rfl rfl rfl rfl _ _ rfl w4.heap.size m rfl rfl (by omega) (by decide) hx5.size ?_)
 intro gg w6 hgg hown6 hx6
 have HGG1:=aA hgg
 clear hgg
 have S6:=aA (show FarAt w6 w4.heap.size gg m (fun _=>0) m by unfold FarAt;rw[show bZ (fun _=>(0:Int)) m=List.replicate m 0 by unfold bZ;simp[List.map_const']];exact hown6)
 clear hown6
 go_wp2_with (at_make;refine sS rfl _ _ rfl w4.heap.size m rfl rfl (by omega) (Nat.le_trans hx5.size hx6.size) ?_)
 intro gc w7 hgc hown7 hx7
 have HGC1:=aA hgc
 clear hgc
 have hne:gs≠gg∧gs≠gc∧gg≠gc:=by have:=HGS1.out;have:=HGG1.out;have:=HGC1.out;have:=hx5.size;have:=S5.out.lt.2;have:=S6.out.lt.2;omega
 have R7:=aA (show RowsH w7 w4.heap.size gs gg gc m v sZ (List.replicate m ((0,0),(0,0),0)) from⟨S5.out.ext (hx6.trans hx7),S6.out.ext hx7,hown7,List.length_replicate,hne⟩)
 have hx47:Ext w4 w7:=(hx5.trans hx6).trans hx7
 have HGS:=aA (show w4.heap.size≤gs∧w4.heap.size≤gg∧w4.heap.size≤gc from by have:=R7.out.lt;omega)
 have HW:Hid (∀wr,Touch (fun k=>k=gs∨k=gg∨k=gc) w7 wr→Ext w4 wr∧w4.heap.size≤wr.heap.size∧w7.heap.size≤wr.heap.size):=aA (fun wr t=>⟨hx47.of_below (t.to_below (B:=w4.heap.size) hx47.size (fun k hk=>by have:=HGS.out;omega)) (Nat.le_refl _),by have:=t.size;have:=hx47.size;omega,t.size⟩)
 clear hown7 hx5 hx6 hx7 HGS1 HGG1 HGC1 S5 S6 hne hx47
 go_wp2_with fail
 go_loopw [14] (fun iv wr=> ∃i:Nat,i≤m∧iv= .int .i64 (i:Int)∧RowsH wr w4.heap.size gs gg gc m v (if k0<i then aY s0 else sZ) (List.replicate m ((0,0),(0,0),0))∧Touch (fun k=>k=gs∨k=gg∨k=gc) w7 wr) (fun iv _=>m-(intOf iv).toNat)
 case atStart=>exact⟨0,Nat.zero_le _,rfl,by rw[if_neg (Nat.not_lt_zero _)];exact R7.out,Touch.refl _ _⟩
 obtain⟨i,hi,rfl,hrow,htt⟩:=hrel
 have RW:=aA hrow
 have TT:=aA htt
 obtain⟨xr,hz4,hz7⟩:=HW.out _ htt
 have XR:=aA xr
 have OR:=aA (ON.out.ext xr)
 have FR:=aA (F4.out.ext xr)
 clear hrow htt xr R7
 by_cases hlt:i<m
 ·have hil:i<NL.length:=by rw[HM.out];exact hlt
  obtain⟨c,hc⟩: ∃c,NL[i]? =some c:=⟨_,zG hil⟩
  obtain⟨nb,no,rfl,zn,hcc⟩:=gM OR.out.reads hc
  have d0:=hcc 0 _ rfl
  have d1:=hcc 1 _ rfl
  simp only[cellE,Nat.add_zero,←Nat.add_assoc]at d0 d1
  have j1:(i:Int)<(m:Int):=by omega
  obtain⟨cx,cy⟩:=c
  simp only at d0 d1
  have HCC:=aA hc
  have f0:=FR.out.at 0 rfl;have f1:=FR.out.at 1 rfl;have fz:=FR.out.lt
  clear hil hc hcc
  by_cases he:(cx,cy)=(fx,fy)
  ·have hq: ∀w,(Op.equalIn 10000 28 (.agg #[.int .i64 cx, .int .i64 cy]) (.agg #[.int .i64 fx, .int .i64 fy])).run Tryz.prog w= .ok true w:=fun w=>by rw[show(Value.agg #[.int .i64 cx, .int .i64 cy])= .agg #[.int .i64 (cx,cy).1, .int .i64 (cx,cy).2] from rfl,show(Value.agg #[.int .i64 fx, .int .i64 fy])= .agg #[.int .i64 (fx,fy).1, .int .i64 (fx,fy).2] from rfl,bC (cx,cy) (fx,fy) w,bB,decide_eq_true he]
   have hik:i=k0:=HINJ.out i k0 hlt hk0l (by rw[HV0.out,←HV.out,nB HCC.out,he,HS0.out])
   have HIK:=aA hik
   clear he hik
   go_wp2_with fail
   refine aS wr [(0,true),(1,true),(2,true),(3,true),(4,true),(5,true)] (fun hK0=> ?_)
   iterate 6 (refine SeqH.fr1 ?_;try simp only[zz])
   refine SeqH.done ?_
   have XE:=aA hK0.2
   clear hK0
   go_upto_region 11 with(fail)
   obtain⟨we,hwe⟩: ∃z,z=wr.drew:=⟨_,rfl⟩
   rw[←hwe]at XE⊢
   have RE:=aA (RW.out.ext XE.out)
   obtain⟨zw0,s0'⟩: ∃z,we.cell? ⟨gs,i,none⟩=some z:=⟨_,(RE.out.st.cell hlt).1⟩
   have s1':=(RE.out.st.cell hlt).2
   have sz':=RE.out.lt.1.2
   have REL:Hid (RowsH (we.setCell ⟨gs,i,none⟩ (.int .i64 1)) w4.heap.size gs gg gc m v (if k0<i+1 then aY s0 else sZ) (List.replicate m ((0,0),(0,0),0))∧Touch (fun k=>k=gs∨k=gg∨k=gc) w7 (we.setCell ⟨gs,i,none⟩ (.int .i64 1))):=aA (by
    refine⟨?_,((TT.out.trans (Touch.of_ext XE.out)).setCell (p:=⟨gs,i,none⟩) (.inl (.inl rfl)) _)⟩
    have hr:=RE.out
    rw[HIK.out,if_neg (Nat.lt_irrefl _)]at hr
    rw[HIK.out,if_pos (Nat.lt_succ_self _)]
    refine hr.open1 hk0l (aY s0) rfl (fun j hj=> ?_)
    show bS (fun _=>0) s0 1 (v j)=if j=k0 then 1 else 0
    unfold bS
    by_cases e:j=k0
    ·rw[if_pos e,if_pos (by rw[e,HV0.out])]
    rw[if_neg e,if_neg (fun k=>e (HINJ.out j k0 hj hk0l (by rw[k,HV0.out])))])
   clear hwe d0 d1 zn f0 f1 fz hq
   go_wp2_with fail
   go_roundw
   case rel=>exact⟨i+1,by omega,by go_num,REL.out.1,REL.out.2⟩
   simp[intOf];omega
  have hq: ∀w,(Op.equalIn 10000 28 (.agg #[.int .i64 cx, .int .i64 cy]) (.agg #[.int .i64 fx, .int .i64 fy])).run Tryz.prog w= .ok false w:=fun w=>by rw[show(Value.agg #[.int .i64 cx, .int .i64 cy])= .agg #[.int .i64 (cx,cy).1, .int .i64 (cx,cy).2] from rfl,show(Value.agg #[.int .i64 fx, .int .i64 fy])= .agg #[.int .i64 (fx,fy).1, .int .i64 (fx,fy).2] from rfl,bC (cx,cy) (fx,fy) w,bB,decide_eq_false he]
  have HIK:=aA (show i≠k0 from fun e=>he (by have h1:=HCC.out;rw[e,HK0.out]at h1;injection h1 with h1;exact h1.symm))
  clear he
  go_wp2_with fail
  refine aS wr [(0,true),(1,true),(2,true),(3,true),(4,true),(5,true)] (fun hK0=> ?_)
  iterate 6 (refine SeqH.fr1 ?_;try simp only[zz])
  refine SeqH.done ?_
  have XE:=aA hK0.2
  clear hK0
  have REL:Hid (RowsH wr.drew w4.heap.size gs gg gc m v (if k0<i+1 then aY s0 else sZ) (List.replicate m ((0,0),(0,0),0))∧Touch (fun k=>k=gs∨k=gg∨k=gc) w7 wr.drew):=aA (by
   refine⟨?_,TT.out.trans (Touch.of_ext XE.out)⟩
   have hr:=RW.out.ext XE.out
   by_cases hk:k0<i
   ·rw[if_pos hk]at hr
    rw[if_pos (by omega)]
    exact hr
   rw[if_neg hk]at hr
   rw[if_neg (by have:=HIK.out;omega)]
   exact hr)
  clear d0 d1 zn f0 f1 fz hq
  go_wp2_with fail
  go_roundw
  case rel=>exact⟨i+1,by omega,by go_num,REL.out.1,REL.out.2⟩
  simp[intOf];omega
 have RS:=aA (show RowsH wr w4.heap.size gs gg gc m v (aY s0) (List.replicate m ((0,0),(0,0),0)) by
  have:=RW.out
  rw[if_pos (by omega)]at this
  exact this)
 have RL:=aA (show gD W NL v s0 w4.heap.size gs gg gc m (aY s0) wr from⟨_,RS.out,CameL.start⟩)
 clear RW RS XR OR FR hz4 hz7
 go_wp2_with fail
 go_loopw [15] (fun sv wr=> ∃A:AS,sv= .int .i64 A.cnt∧LInv GG s0 A∧gD W NL v s0 w4.heap.size gs gg gc m A wr∧(∀p cc k er,LRun GG W (aC W (tx,ty)) b (eB W H s l (fx,fy)) A p cc k er→LRun GG W (aC W (tx,ty)) b (eB W H s l (fx,fy)) (aY s0) p cc k er)∧Touch (fun k=>k=gs∨k=gg∨k=gc) w7 wr) (fun sv _=>n-(intOf sv).toNat)
 case atStart=>exact⟨aY s0,rfl,I0.out,RL.out,fun _ _ _ _ r=>r,TT.out⟩
 obtain⟨A,rfl,hI,hR,hA,htt⟩:=hrel
 clear RL TT
 have II:=aA hI
 have RR:=aA hR
 have HA:=aA hA
 have TT:=aA htt
 have hfew:=hI.few
 rw[HGN.out]at hfew
 have HGB:Hid (∀u,A.st u≠0→0≤A.g u∧A.g u≤1000000000000):=aA (fun u hu=>by have:=hI.bd u hu;omega)
 clear hI hR hA htt
 go_wp2_with fail
 go_loopw [16,17] (fun bv iv wx=> ∃(i:Nat) (o:Option Nat),i≤m∧iv= .int .i64 (i:Int)∧bv= .int .i64 (qU o)∧BestM A v i o∧Ext wr wx) (fun _ iv _=>m-(intOf iv).toNat)
 case atStart=>exact⟨0,none,Nat.zero_le _,rfl,rfl,BestM.start,Ext.refl _⟩
 obtain⟨i,o,hi,rfl,rfl,hbm,hext⟩:=hrel
 have HXx:=aA hext
 have HBM:=aA hbm
 clear hext hbm
 by_cases hlt:i<m
 ·have j1:(i:Int)<(m:Int):=by omega
  obtain⟨cm,hrows,_⟩:=RR.out
  have Rx:=aA (hrows.ext HXx.out)
  have sc:=(Rx.out.st.cell hlt).1
  have gz0:=Rx.out.lt.1.2
  have gz1:=Rx.out.lt.2.1.2
  clear hrows
  by_cases hst:A.st (v i)=1
  ·rw[hst]at sc
   cases o with
   |none=>
    have HB2:=aA (HBM.out.first hst)
    simp only[qU]
    clear hst
    go_wp2_with fail
    refine aS wr [(0,true),(1,true),(2,true),(3,true),(4,true),(5,true),(6,true),(7,true),(8,true),(9,true),(10,true),(11,true),(12,true),(13,true),(14,true),(15,true),(16,true),(17,true),(18,true),(19,true)] (fun hK0=> ?_)
    iterate 20 (refine SeqH.fr1 ?_;try simp only[zz])
    refine SeqH.done ?_
    have hx:=hK0.2
    clear hK0
    go_wp2_with fail
    go_roundw
    case rel=>exact⟨i+1,some i,by omega,by go_num,rfl,HB2.out,HXx.out.trans hx⟩
    simp[intOf];omega
   |some j=>
    obtain⟨m1,m2,_⟩:=HBM.out.some j rfl
    have g0:=(Rx.out.g.cell hlt).1
    have g1:=(Rx.out.g.cell (i:=j) (by omega)).1
    have hj:decide ((j:Int)<0)=false:=by simp
    have j2:(j:Int)<(m:Int):=by omega
    simp only[qU]
    by_cases hl2:A.g (v i)<A.g (v j)
    ·have hd:decide (A.g (v i)<A.g (v j))=true:=by simpa using hl2
     have HB2:=aA (HBM.out.less hst hl2)
     clear hst hl2 m1 m2
     go_wp2_with fail
     refine aS wr [(0,true),(1,true),(2,true),(3,true),(4,true),(5,true),(6,true),(7,true),(8,true),(9,true),(10,true),(11,true),(12,true),(13,true),(14,true),(15,true),(16,true),(17,true),(18,true),(19,true)] (fun hK0=> ?_)
     iterate 20 (refine SeqH.fr1 ?_;try simp only[zz])
     refine SeqH.done ?_
     have hx:=hK0.2
     clear hK0
     go_wp2_with fail
     go_roundw
     case rel=>exact⟨i+1,some i,by omega,by go_num,rfl,HB2.out,HXx.out.trans hx⟩
     simp[intOf];omega
    have hd:decide (A.g (v i)<A.g (v j))=false:=by simpa using hl2
    have HB2:=aA (HBM.out.keep hst hl2)
    clear hst hl2 m1 m2
    go_wp2_with fail
    refine aS wr [(0,true),(1,true),(2,true),(3,true),(4,true),(5,true),(6,true),(7,true),(8,true),(9,true),(10,true),(11,true),(12,true),(13,true),(14,true),(15,true),(16,true),(17,true),(18,true),(19,true)] (fun hK0=> ?_)
    iterate 20 (refine SeqH.fr1 ?_;try simp only[zz])
    refine SeqH.done ?_
    have hx:=hK0.2
    clear hK0
    go_wp2_with fail
    go_roundw
    case rel=>exact⟨i+1,some j,by omega,by go_num,rfl,HB2.out,HXx.out.trans hx⟩
    simp[intOf];omega
  have hsf:((A.st (v i):Int)==1)=false:=by simp;omega
  have HB2:=aA (HBM.out.skip hst)
  obtain⟨bi,hbi⟩: ∃z,qU o=z:=⟨_,rfl⟩
  have HBI:=aA hbi
  rw[hbi]
  obtain⟨sti,hsti⟩: ∃z,(A.st (v i):Int)=z:=⟨_,rfl⟩
  rw[hsti]at sc hsf
  clear hst hbi hsti
  go_wp2_with fail
  refine aS wr [(0,true),(1,true),(2,true),(3,true),(4,true),(5,true),(6,true),(7,true),(8,true),(9,true),(10,true),(11,true),(12,true),(13,true),(14,true),(15,true),(16,true),(17,true),(18,true),(19,true)] (fun hK0=> ?_)
  iterate 20 (refine SeqH.fr1 ?_;try simp only[zz])
  refine SeqH.done ?_
  have hx:=hK0.2
  clear hK0
  go_wp2_with fail
  go_roundw
  case rel=>exact⟨i+1,o,by omega,by go_num,by rw[HBI.out],HB2.out,HXx.out.trans hx⟩
  simp[intOf];omega
 obtain rfl:m=i:=by omega
 have TTx:=aA (TT.out.trans (Touch.of_ext HXx.out))
 have RRx:Hid (gD W NL v s0 w4.heap.size gs gg gc m A wr):=aA (by obtain⟨cm,h1,h2⟩:=RR.out;exact⟨cm,h1.ext HXx.out,h2⟩)
 obtain⟨xr,hz4,hz7⟩:=HW.out _ TTx.out
 have XW:=aA (X4.out.trans xr)
 have RBx:=aA (R4.out.ext xr)
 clear hlt hi RR HXx xr
 cases o with
 |none=>
  have HRUN:=aA (HA.out _ _ _ _ (LRun.none (fun u=>HBE.out A II.out.op HBM.out u)))
  simp only[qU]
  have r0:=RBx.out.at 0 rfl;have r1:=RBx.out.at 1 rfl;have r2:=RBx.out.at 2 rfl;have rz:=RBx.out.lt
  have f0:=RBx.out.frozen 0
  have f1:=RBx.out.frozen 1
  have f2:=RBx.out.frozen 2
  go_wp2_with fail
  have hxw:=XW.out
  exact bodyPost_ret (v:= .tuple #[.agg #[.slice none 0 0, .int .u64 0, .int .i64 A.cnt], .int .i64 22]) (by simp[results,Tryz.results14,go_sem, *]) rfl ⟨z_x,[],0,A.cnt,22,_,HRUN.out,rfl,Own.nil _ _ _ _⟩
 |some j=>
  have HB:=aA (HBS.out A II.out.op j HBM.out)
  obtain⟨hjm,hst1,_⟩:=HBM.out.some j rfl
  simp only[qU]
  have j0:decide ((j:Int)<0)=false:=by simp
  by_cases hbud:A.cnt=b
  ·have HRUN:=aA (HA.out _ _ _ _ (LRun.full (v j) hst1 hbud))
   have hbb:(A.cnt==b)=true:=by simpa using hbud
   clear hbud hst1
   have r0:=RBx.out.at 0 rfl;have r1:=RBx.out.at 1 rfl;have r2:=RBx.out.at 2 rfl;have rz:=RBx.out.lt
   have f0:=RBx.out.frozen 0
   have f1:=RBx.out.frozen 1
   have f2:=RBx.out.frozen 2
   go_wp2_with fail
   have hxw:=XW.out
   exact bodyPost_ret (v:= .tuple #[.agg #[.slice none 0 0, .int .u64 0, .int .i64 A.cnt], .int .i64 23]) (by simp[results,Tryz.results14,go_sem, *]) rfl ⟨z_x,[],0,A.cnt,23,_,HRUN.out,rfl,Own.nil _ _ _ _⟩
  have hbb:(A.cnt==b)=false:=by simpa using hbud
  have HBUD:=aA hbud
  have HST:=aA hst1
  have HJM:=aA hjm
  obtain⟨zw0,sz0⟩: ∃z,wr.cell? ⟨gs,j,none⟩=some z:=by obtain⟨cm,h1,_⟩:=RRx.out;exact⟨_,(h1.st.cell hjm).1⟩
  have sz1:wr.frozen? ⟨gs,j,none⟩=false:=by obtain⟨cm,h1,_⟩:=RRx.out;exact(h1.st.cell hjm).2
  have gz0:gs<wr.heap.size:=by obtain⟨cm,h1,_⟩:=RRx.out;exact h1.lt.1.2
  have j1:(j:Int)<(m:Int):=by omega
  have kw:IntKind.i64.wrap (A.cnt+1)=A.cnt+1:=IntWalk.i64_in _ (by omega)
  clear hbud hst1
  go_upto_region 25 with(fail)
  obtain⟨w8,hw8⟩: ∃z,z=wr.setCell ⟨gs,j,none⟩ (.int .i64 2):=⟨_,rfl⟩
  have R8:Hid (gD W NL v s0 w4.heap.size gs gg gc m (A.settle (v j)) w8):=aA (by
   obtain⟨cm,h1,h2⟩:=RRx.out
   refine⟨cm,?_,h2.settle (by rw[HST.out];decide)⟩
   rw[hw8]
   exact h1.settle hjm (fun i hi e=>HINJ.out i j hi hjm e))
  have T8:=aA (show Touch (fun k=>k=gs∨k=gg∨k=gc) w7 w8 by rw[hw8];exact TTx.out.setCell (p:=⟨gs,j,none⟩) (.inl (.inl rfl)) _)
  rw[←hw8]
  obtain⟨x8,hz48,hz78⟩:=HW.out _ T8.out
  have X48:=aA x8
  have ON8:=aA (ON.out.ext x8)
  have TO8:=aA (T4.out.ext x8)
  have hgvj:=HGB.out (v j) (by rw[HST.out];decide)
  have HGVJ:=aA hgvj
  obtain⟨c,hc⟩: ∃c,NL[j]? =some c:=⟨_,zG (by rw[HM.out];exact hjm)⟩
  have HCJ:=aA hc
  obtain⟨hcin,hvj⟩:=HNI.out j c hc
  have HCIN:=aA hcin
  have HVJ:=aA hvj
  obtain⟨nb,no,hna,zn,hcc⟩:=gM ON8.out.reads hc
  have d0:=hcc 0 _ rfl
  have d1:=hcc 1 _ rfl
  simp only[cellE,Nat.add_zero,←Nat.add_assoc]at d0 d1
  obtain⟨cx,cy⟩:=c
  simp only at d0 d1
  subst hna
  clear hw8 hc hcin hvj hcc x8 RRx TTx RBx XW sz0 sz1 gz0 kw hgvj hz4 hz7
  have t0:=TO8.out.at 0 rfl;have t1:=TO8.out.at 1 rfl;have tz:=TO8.out.lt
  by_cases he:(cx,cy)=(tx,ty)
  ·as_aux_lemma=>
    have hq: ∀w,(Op.equalIn 10000 28 (.agg #[.int .i64 cx, .int .i64 cy]) (.agg #[.int .i64 tx, .int .i64 ty])).run Tryz.prog w= .ok true w:=fun w=>by rw[show(Value.agg #[.int .i64 cx, .int .i64 cy])= .agg #[.int .i64 (cx,cy).1, .int .i64 (cx,cy).2] from rfl,show(Value.agg #[.int .i64 tx, .int .i64 ty])= .agg #[.int .i64 (tx,ty).1, .int .i64 (tx,ty).2] from rfl,bC (cx,cy) (tx,ty) w,bB,decide_eq_true he]
    have HE:=aA he
    clear he
    refine aS w8 [(0,true),(1,true),(2,true),(3,true),(4,true),(5,true)] (fun hK0=> ?_)
    iterate 6 (refine SeqH.fr1 ?_;try simp only[zz])
    refine SeqH.done ?_
    have XE:=aA hK0.2
    clear hK0 d0 d1 zn t0 t1 tz hq
    go_upto_region 26 with(fail)
    obtain⟨we,hwe⟩: ∃z,z=w8.drew:=⟨_,rfl⟩
    rw[←hwe]at XE⊢
    have X4E:=aA (X48.out.trans XE.out)
    have RE:Hid (gD W NL v s0 w4.heap.size gs gg gc m (A.settle (v j)) we):=aA (by obtain⟨cm,h1,h2⟩:=R8.out;exact⟨cm,h1.ext XE.out,h2⟩)
    have TE:=aA (T8.out.trans (Touch.of_ext XE.out))
    clear hwe XE ON8 TO8 R8 T8 X48
    obtain⟨ch0,hch,hcs,hcn⟩:=qF II.out (A.g (v j)).toNat (v j) (by have:=HGVJ.out;omega) (by rw[HST.out];decide)
    have hcl:ch0.length≤n:=fR hcn (fun p hp=>by have:=GG.lt p (II.out.op p (hcs p hp).1);rw[HGN.out]at this;exact this)
    have HVT:Hid (v j=aC W (tx,ty)):=aA (by rw[HVJ.out,HE.out])
    have HRUN:=aA (HA.out _ _ _ _ (LRun.found (G:=GG) (W:=W) (t:=aC W (tx,ty)) (b:=b) (P:=eB W H s l (fx,fy)) (l:=ch0) (by rw[←HVT.out];exact HB.out) HBUD.out (by rw[←HVT.out];exact hch)))
    rw[←HVT.out]at HRUN
    have HCH:=aA hch
    have HCLN:=aA hcl
    clear hch hcs hcn hcl HA HBUD HB
    obtain⟨wp,hwp⟩: ∃z,fH (fun p q=>cS W H s l (aG W p) (aG W q)) [] ch0=z:=⟨_,rfl⟩
    have HWP:=aA hwp
    clear hwp
    go_upto_region 27 with(fail)
    obtain⟨wh,hwh⟩: ∃z,z=we.alloc (.cells #[] 28):=⟨_,rfl⟩
    have xeh:Ext we wh:=by rw[hwh];exact(Ext.refl _).alloc _
    have OH:=aA (show Own cellE wh we.heap.size 28 (.slice (some ⟨we.heap.size,0,none⟩) 0 0) [] by rw[hwh];exact Own.lit0 _ _ _ _ _ rfl (Nat.le_refl _))
    rw[←hwh]
    have X4H:=aA (X4E.out.trans xeh)
    have RH:Hid (gD W NL v s0 w4.heap.size gs gg gc m (A.settle (v j)) wh):=aA (by obtain⟨cm,h1,h2⟩:=RE.out;exact⟨cm,h1.ext xeh,h2⟩)
    clear hwh xeh RE X4E
    go_wp2_with fail
    go_loopg [18,19] ch0.length (fun gk ov iv wr=> ∃(ch:List Nat) (acc:List aB) (i:Nat),gk=ch.length∧i<m∧iv= .int .i64 (i:Int)∧Own cellE wr we.heap.size 28 ov acc∧Ext wh wr∧Chain A.came (v i) ch∧A.st (v i)≠0∧fH (fun p q=>cS W H s l (aG W p) (aG W q)) acc ch=wp∧acc.length+150*ch.length≤150*ch0.length)
    case atStart=>exact⟨ch0,[],j,rfl,HJM.out,rfl,OH.out,Ext.refl _,HCH.out,by rw[HST.out];decide,HWP.out,by simp⟩
    obtain⟨ch,acc,i,rfl,him,rfl,hov,hx,hci,hsi,hpt,hal⟩:=hrel
    have HOV:=aA hov
    have HX:=aA hx
    have HCI:=aA hci
    have HSI:=aA hsi
    have HPT:=aA hpt
    have HAL:=aA hal
    obtain⟨va,vc,rfl⟩:=hov.slice
    have X4R:=aA (X4H.out.trans hx)
    have ONR:=aA (ON.out.ext X4R.out)
    have FR:=aA (F4.out.ext X4R.out)
    obtain⟨c,hc⟩: ∃c,NL[i]? =some c:=⟨_,zG (by rw[HM.out];exact him)⟩
    have HCC:=aA hc
    obtain⟨hcn1,hvi⟩:=HNI.out i c hc
    have HVI:=aA hvi
    obtain⟨nb4,no4,hna4,zn,hcc⟩:=gM ONR.out.reads hc
    obtain⟨rfl,rfl⟩:nb=nb4∧no=no4:=by injection hna4 with h;injection h with h1 h2;exact⟨h1,h2⟩
    have d0:=hcc 0 _ rfl
    have d1:=hcc 1 _ rfl
    simp only[cellE,Nat.add_zero,←Nat.add_assoc]at d0 d1
    obtain⟨ix,iy⟩:=c
    simp only at d0 d1
    have j1:(i:Int)<(m:Int):=by omega
    clear hov hx hci hsi hpt hal hc hcn1 hvi hna4 hcc
    have f0:=FR.out.at 0 rfl;have f1:=FR.out.at 1 rfl;have fz:=FR.out.lt
    by_cases he:(ix,iy)=(fx,fy)
    ·have hq: ∀w,(Op.equalIn 10000 28 (.agg #[.int .i64 ix, .int .i64 iy]) (.agg #[.int .i64 fx, .int .i64 fy])).run Tryz.prog w= .ok true w:=fun w=>by rw[show(Value.agg #[.int .i64 ix, .int .i64 iy])= .agg #[.int .i64 (ix,iy).1, .int .i64 (ix,iy).2] from rfl,show(Value.agg #[.int .i64 fx, .int .i64 fy])= .agg #[.int .i64 (fx,fy).1, .int .i64 (fx,fy).2] from rfl,bC (ix,iy) (fx,fy) w,bB,decide_eq_true he]
     have HACC:Hid (wp=acc):=aA (by
      have h:=HPT.out
      have hc0:A.came (v i)= -1:=by rw[HVI.out,he,HS0.out];exact II.out.sc
      have hci:=HCI.out
      cases hci with
      |stop _=>exact h.symm
      |go h1 _=>omega)
     clear he
     go_wp2_with fail
     refine aS wr [(0,true),(1,true),(2,true),(3,true),(4,true),(5,true)] (fun hK0=> ?_)
     iterate 6 (refine SeqH.fr1 ?_;try simp only[zz])
     refine SeqH.done ?_
     have XE:=aA hK0.2
     clear hK0
     go_upto_region 37 with(fail)
     obtain⟨wz,hwz⟩: ∃z,z=wr.drew:=⟨_,rfl⟩
     rw[←hwz]at XE⊢
     have FZ:=aA (FR.out.ext XE.out)
     have g0:wz.cell? ⟨gg,j,none⟩=some (.int .u64 (A.g (v j))):=by obtain⟨cm,h1,_⟩:=RH.out;exact((h1.ext (HX.out.trans XE.out)).g.cell HJM.out).1
     have gz:gg<wz.heap.size:=by obtain⟨cm,h1,_⟩:=RH.out;exact(h1.ext (HX.out.trans XE.out)).lt.2.1.2
     have S0:Hid (CellsAt [(⟨w.heap.size,0,none⟩, .int .i64 fx),(⟨w.heap.size,1,none⟩, .int .i64 fy),(⟨gg,j,none⟩, .int .u64 (A.g (v j)))] wz):=aA ⟨FZ.out.cell 0,FZ.out.cell 1,g0,trivial⟩
     have HAB:=aA (show acc.length≤30000 from by have:=HAL.out;have:=HCLN.out;omega)
     have HOZ:=aA (HOV.out.ext XE.out)
     have HZW:=aA (show w.heap.size+3≤wz.heap.size from by have:=HZ4.out;have:=X4R.out.size;have:=XE.out.size;omega)
     have R4Z:=aA (R4.out.ext (X4R.out.trans XE.out))
     have HR2:Hid (LRun GG W (v j) b (eB W H s l (fx,fy)) (aY s0) ((fx,fy)::acc) (A.g (v j)) (A.cnt+1) 0):=aA (by
      have h:=HRUN.out
      rw[show eB W H s l (fx,fy) ch0=(fx,fy)::acc from by unfold eB;rw[HWP.out,HACC.out]]at h
      exact h)
     clear d0 d1 zn f0 f1 fz hq hwz g0 HRUN HCH
     refine bM (S:=(CellsAt [(⟨w.heap.size,0,none⟩, .int .i64 fx),(⟨w.heap.size,1,none⟩, .int .i64 fy),(⟨gg,j,none⟩, .int .u64 (A.g (v j)))])) [(0,true),(2,true),(4,true),(5,true),(6,true),(7,true),(8,true),(1,false),(3,false),(9,true),(10,false),(11,true)] (by kernel_rfl) (by kernel_rfl) (by kernel_rfl) (by decide) (fun _ _ d _ _ h=>by cases d<;>exact h) (CellsAt.ext ((Ext.refl _).drew) S0.out) (fun hK0=> ?_)
     iterate 7 (refine SeqH.fr2 ?_;try simp only[zz])
     (refine aP ?_;intro K hK;go_simp;refine hK.out _ _ (CellsAt.ext z_x S0.out) (fun hK0=> ?_);clear hK K;try simp only[zz])
     (refine aP ?_;intro K hK;refine pP cellE T_cells (by rfl) _ _ (by rfl) wz.heap.size (.slice (some ⟨wz.heap.size,0,none⟩) 1 1) [(fx,fy)] acc (by rfl) (Own.lit1 cellE wz.drew _ _ _ (fx,fy) _ rfl rfl (Nat.le_refl _)) (.slice va acc.length vc) (by rfl) (HOZ.out.ext z_x).reads (by have:=HAB.out;simp;omega) (by have:=HAB.out;simp;omega) (by simp) ?_;intro v9 w9 o9 t9 l9;obtain⟨a9,c9,rfl⟩:=o9.slice;rw[show([(fx,fy)]++acc).length=acc.length+1 by simp]at o9⊢;have O9:=aA o9;have X9:=aA (((Touch.of_ext (S:=fun _=>False) (show Ext wz _ from z_x)).after t9 (fun k hk h=>by simp only[Value.ownBlock,Option.some.injEq]at h;omega)).ext);have R9:=aA (R4Z.out.ext X9.out);have r0:=R9.out.at 0 rfl;have r1:=R9.out.at 1 rfl;have r2:=R9.out.at 2 rfl;have f0:=R9.out.frozen 0;have f1:=R9.out.frozen 1;have f2:=R9.out.frozen 2;have rz:=R9.out.lt;have TF:Hid (∀a b c,Touch (fun k=>k=w.heap.size+1+1) w9 (((w9.setCell ⟨w.heap.size+1+1,0,none⟩ a).setCell ⟨w.heap.size+1+1,1,none⟩ b).setCell ⟨w.heap.size+1+1,2,none⟩ c)):=aA (fun a b c=>(((Touch.refl (fun k=>k=w.heap.size+1+1) w9).setCell (p:=⟨w.heap.size+1+1,0,none⟩) (.inl rfl) _).setCell (p:=⟨w.heap.size+1+1,1,none⟩) (.inl rfl) _).setCell (p:=⟨w.heap.size+1+1,2,none⟩) (.inl rfl) _);have S9:=aA (fun(w':World) (t:Touch (fun k=>k=w.heap.size+1+1) w9 w')=>(CellsAt.touch t (by intro p hp;have:=HGS.out;have:=HZ4.out;simp only[List.mem_cons,List.not_mem_nil,or_false]at hp;rcases hp with rfl|rfl|rfl<;>simp only<;>omega) (CellsAt.ext X9.out S0.out):CellsAt [(⟨w.heap.size,0,none⟩, .int .i64 fx),(⟨w.heap.size,1,none⟩, .int .i64 fy),(⟨gg,j,none⟩, .int .u64 (A.g (v j)))] w'));clear o9 t9 l9;refine hK.out _ _ (CellsAt.ext X9.out S0.out) (fun hK0=> ?_);clear hK K;try simp only[zz])
     iterate 1 (refine SeqH.fr2 ?_;try simp only[zz])
     (refine aP ?_;intro K hK;go_simp;refine hK.out _ _ (S9.out _ (TF.out _ _ _)) (fun hK0=> ?_);clear hK K;try simp only[zz])
     iterate 1 (refine SeqH.fr2 ?_;try simp only[zz])
     refine SeqH.done ?_
     have FIN:Hid (∀w',Touch (fun k=>k=w.heap.size+1+1) w9 w'→Ext w w'∧Own cellE w' w.heap.size 28 (.slice a9 (acc.length+1) c9) ((fx,fy)::acc)):=aA (fun w' tt=>⟨((Touch.of_ext (S:=fun _=>False) (X4.out.trans ((X4R.out.trans XE.out).trans X9.out))).after tt (fun k hk e=>by omega)).ext,(Own.touch O9.out tt (fun k hk e=>by have:=(aF O9.out (k:=k) hk).1;have:=HZW.out;have:k=w.heap.size+1+1:=e;omega)).lower (by have:=HZW.out;omega)⟩)
     go_wp2_with fail
     exact bodyPost_ret (v:= .tuple #[.agg #[.slice a9 (acc.length+1) c9, .int .u64 (A.g (v j)), .int .i64 (A.cnt+1)], .int .i64 0]) (by simp[results,Tryz.results14,go_sem, *]) rfl ⟨(FIN.out _ (TF.out _ _ _)).1,(fx,fy)::acc,A.g (v j),A.cnt+1,0,_,(by rw[←HVT.out];exact HR2.out),rfl,(FIN.out _ (TF.out _ _ _)).2⟩
    have hq: ∀w,(Op.equalIn 10000 28 (.agg #[.int .i64 ix, .int .i64 iy]) (.agg #[.int .i64 fx, .int .i64 fy])).run Tryz.prog w= .ok false w:=fun w=>by rw[show(Value.agg #[.int .i64 ix, .int .i64 iy])= .agg #[.int .i64 (ix,iy).1, .int .i64 (ix,iy).2] from rfl,show(Value.agg #[.int .i64 fx, .int .i64 fy])= .agg #[.int .i64 (fx,fy).1, .int .i64 (fx,fy).2] from rfl,bC (ix,iy) (fx,fy) w,bB,decide_eq_false he]
    have hcin:=(HNI.out i _ HCC.out).1
    have hne:aC W (ix,iy)≠s0:=fun e=>he (oC hcin HFI.out (by rw[e,HS0.out]))
    obtain⟨cm,h1,h2⟩:=RH.out
    have hcl:=HCL.out A cm II.out (fun p c2 a1 a2 a3=>h2 p c2 a1 (fun e=>a2 (by
     have:(A.settle (v j)).st (v p)=0:=e
     by_cases k:v p=v j
     ·rw[k]at this
      rw[show(A.settle (v j)).st (v j)=2 from cC _ _ _]at this
      cases this
     exact(fA _ _ k).symm.trans this)) a3) i (ix,iy) HCC.out (by rw[←HVI.out];exact HSI.out) hne
    obtain⟨jn,an,x,hjn,hcam,hsa,hcmi,hain,_,hdist,hwl⟩:=hcl
    have HJN:=aA hjn
    have HSA:=aA hsa
    have HCAM:=aA hcam
    have HWL:=aA hwl
    have HWC:=aA (fun(w':World) (hw:Ext wr w')=>HWY.out w' (X4.out.trans (X4R.out.trans hw)) an (ix,iy) x hain hcin hdist)
    have hjnm:jn<m:=by rw[←HM.out];exact(zJ hjn).1
    obtain⟨lb,lo,hla,zl,hlc⟩:=gM (h1.came.ext HX.out).reads hcmi
    obtain⟨rfl,rfl⟩:gc=lb∧0=lo:=by injection hla with h;injection h with h1 h2;exact⟨h1,h2⟩
    have e0:=hlc 0 _ rfl
    have e1:=hlc 1 _ rfl
    have e2:=hlc 2 _ rfl
    have e3:=hlc 3 _ rfl
    have e4:=hlc 4 _ rfl
    obtain⟨ax,ay⟩:=an
    simp only[legE,Nat.add_zero,Nat.zero_add,←Nat.add_assoc]at e0 e1 e2 e3 e4
    clear he hne h1 h2 hjn hcam hsa hcmi hain hdist hwl hla hlc hcin
    go_wp2_with fail
    refine aS wr [(0,true),(1,true),(2,true),(3,true),(4,true),(5,true)] (fun hK0=> ?_)
    iterate 6 (refine SeqH.fr1 ?_;try simp only[zz])
    refine SeqH.done ?_
    have XE:=aA hK0.2
    clear hK0
    go_upto_region 29 with(fail)
    obtain⟨wz,hwz⟩: ∃z,z=wr.drew:=⟨_,rfl⟩
    have hcell: ∀p,wz.cell? p=wr.cell? p:=fun p=>by rw[hwz];rfl
    have hsz:wz.heap.size=wr.heap.size:=by rw[hwz];rfl
    rw[←hwz]at XE⊢
    rw[←hcell]at e0 e1 e2 e3 e4
    rw[←hsz]at zl
    have OVZ:=aA (HOV.out.ext XE.out)
    have HZZ:=aA (show we.heap.size≤wz.heap.size by have:=HX.out.size;have:=XE.out.size;have:=(aF OH.out (k:=we.heap.size) rfl).2;omega)
    obtain⟨WB,hWB⟩: ∃z,cS W H s l (ax,ay) (ix,iy)=z:=⟨_,rfl⟩
    have HWB:=aA hWB
    rw[hWB]at HWC HWL
    have E0:=aA (And.intro e0 e1)
    clear hcell hsz hwz d0 d1 zn f0 f1 fz hq hWB
    go_wp2_with fail
    refine(HWC.out _ (XE.out.trans ((Ext.refl _).alloc _))).mono ?_
    rintro e wy ⟨vy2,rfl,xy,ry⟩
    have OA:=aA ((show Own cellE (wz.alloc (.cells #[] 28)) wz.heap.size 28 (.slice (some ⟨wz.heap.size,0,none⟩) 0 0) [] from Own.lit0 _ _ _ _ _ rfl (Nat.le_refl _)).ext xy)
    have XY:=aA (((Ext.refl wz).alloc (.cells #[] 28)).trans xy)
    have RY:=aA ry
    have hal2:=HAL.out
    have hwl2:=HWL.out
    have hcl2:=HCLN.out
    have hbd:WB.length+acc.length≤30000:=by omega
    have HBD2:=aA hbd
    clear xy ry e0 e1 e2 e3 e4 zl hal2 hwl2 hcl2 hbd
    go_wp2_with (first
     |(at_builtin;refine cO cellE T_cells rfl _ _ rfl wz.heap.size _ [] WB rfl OA.out _ rfl RY.out (by have:=HBD2.out;simp;omega) (by have:=HBD2.out;simp;omega) XY.out.size ?_;intro v8 w8b o8 t8 l8;have O8:=aA o8;have X8:=aA (XY.out.of_below (t8.to_below (B:=wz.heap.size) XY.out.size (fun k hk=>(aF OA.out hk).1)) (Nat.le_refl _));clear o8 t8 l8)
     |(at_builtin;refine cO cellE T_cells rfl _ _ rfl wz.heap.size _ _ acc rfl O8.out _ rfl (OVZ.out.ext X8.out).reads (by have:=HBD2.out;simp;omega) (by have:=HBD2.out;simp;omega) X8.out.size ?_;intro v9 w9b o9 t9 l9;have O9:=aA o9;have X9:=aA (X8.out.of_below (t9.to_below (B:=wz.heap.size) X8.out.size (fun k hk=>(aF O8.out hk).1)) (Nat.le_refl _));clear o9 t9 l9))
    go_loopw [20,21] (fun nv kv wk=> ∃kk:Nat,kk≤m∧kv= .int .i64 (kk:Int)∧nv= .int .i64 (((if jn<kk then jn else i):Nat):Int)∧Ext w9b wk) (fun _ kv _=>m-(intOf kv).toNat)
    case atStart=>exact⟨0,Nat.zero_le _,rfl,by rw[if_neg (Nat.not_lt_zero _)],Ext.refl _⟩
    obtain⟨kk,hkk,rfl,rfl,hxk⟩:=hrel
    have HXK:=aA hxk
    have XKZ:=aA (X9.out.trans hxk)
    have ONK:=aA (ON.out.ext ((X4R.out.trans XE.out).trans XKZ.out))
    obtain⟨nx,hnx⟩: ∃z,(if jn<kk then jn else i)=z:=⟨_,rfl⟩
    have HNX:=aA hnx
    rw[hnx]
    clear hnx hxk
    by_cases hlt:kk<m
    ·have hkl:kk<NL.length:=by rw[HM.out];exact hlt
     obtain⟨c,hc⟩: ∃c,NL[kk]? =some c:=⟨_,zG hkl⟩
     have HCK:=aA hc
     obtain⟨nb5,no5,hna5,zn,hcc⟩:=gM ONK.out.reads hc
     obtain⟨rfl,rfl⟩:nb=nb5∧no=no5:=by injection hna5 with h;injection h with h1 h2;exact⟨h1,h2⟩
     have d0:=hcc 0 _ rfl
     have d1:=hcc 1 _ rfl
     simp only[cellE,Nat.add_zero,←Nat.add_assoc]at d0 d1
     obtain⟨kx,ky⟩:=c
     simp only at d0 d1
     have j1k:(kk:Int)<(m:Int):=by omega
     obtain⟨cm3,h13,_⟩:=RH.out
     have zgc:=(h13.ext (HX.out.trans XE.out)).lt.2.2.2
     have e0:=(XKZ.out.cell (p:=⟨gc,i*5,none⟩) zgc).trans E0.out.1
     have e1:=(XKZ.out.cell (p:=⟨gc,i*5+1,none⟩) zgc).trans E0.out.2
     have zgk:=Nat.lt_of_lt_of_le zgc XKZ.out.size
     clear hc hcc hna5 hkl h13 zgc
     by_cases he:(kx,ky)=(ax,ay)
     ·have hq: ∀w,(Op.equalIn 10000 28 (.agg #[.int .i64 kx, .int .i64 ky]) (.agg #[.int .i64 ax, .int .i64 ay])).run Tryz.prog w= .ok true w:=fun w=>by rw[show(Value.agg #[.int .i64 kx, .int .i64 ky])= .agg #[.int .i64 (kx,ky).1, .int .i64 (kx,ky).2] from rfl,show(Value.agg #[.int .i64 ax, .int .i64 ay])= .agg #[.int .i64 (ax,ay).1, .int .i64 (ax,ay).2] from rfl,bC (kx,ky) (ax,ay) w,bB,decide_eq_true he]
      have HJK:Hid (jn=kk):=aA (HINJ.out jn kk hjnm hlt (by rw[(HNI.out jn _ HJN.out).2,(HNI.out kk _ HCK.out).2,he]))
      clear he
      go_wp2_with fail
      refine aS wr [(0,true),(1,true),(2,true),(3,true),(4,true),(5,true),(6,true),(7,true),(8,true),(9,true)] (fun hK0=> ?_)
      iterate 10 (refine SeqH.fr1 ?_;try simp only[zz])
      refine SeqH.done ?_
      have XD:=aA hK0.2
      clear hK0
      go_wp2_with fail
      go_roundw
      case rel=>exact⟨kk+1,by omega,by go_num,by rw[if_pos (by have:=HJK.out;omega),HJK.out],HXK.out.trans XD.out⟩
      simp[intOf];omega
     have hq: ∀w,(Op.equalIn 10000 28 (.agg #[.int .i64 kx, .int .i64 ky]) (.agg #[.int .i64 ax, .int .i64 ay])).run Tryz.prog w= .ok false w:=fun w=>by rw[show(Value.agg #[.int .i64 kx, .int .i64 ky])= .agg #[.int .i64 (kx,ky).1, .int .i64 (kx,ky).2] from rfl,show(Value.agg #[.int .i64 ax, .int .i64 ay])= .agg #[.int .i64 (ax,ay).1, .int .i64 (ax,ay).2] from rfl,bC (kx,ky) (ax,ay) w,bB,decide_eq_false he]
     have HJK:Hid (jn≠kk):=aA (fun e=>he (by have h1:=HCK.out;rw[←e,HJN.out]at h1;injection h1 with h1;exact h1.symm))
     clear he
     go_wp2_with fail
     refine aS wr [(0,true),(1,true),(2,true),(3,true),(4,true),(5,true),(6,true),(7,true),(8,true),(9,true)] (fun hK0=> ?_)
     iterate 10 (refine SeqH.fr1 ?_;try simp only[zz])
     refine SeqH.done ?_
     have XD:=aA hK0.2
     clear hK0
     have HNX2:Hid ((if jn<kk+1 then jn else i)=nx):=aA (by
      rw[←HNX.out]
      have:=HJK.out
      by_cases e:jn<kk
      ·rw[if_pos e,if_pos (by omega)]
      rw[if_neg e,if_neg (by omega)])
     go_wp2_with fail
     go_roundw
     case rel=>exact⟨kk+1,by omega,by go_num,by rw[HNX2.out],HXK.out.trans XD.out⟩
     simp[intOf];omega
    obtain rfl:m=kk:=by omega
    obtain rfl:nx=jn:=by rw[←HNX.out,if_pos hjnm]
    have REL:Hid (∃ch2:List Nat,ch.length=ch2.length+1∧Chain A.came (v nx) ch2∧fH (fun p q=>cS W H s l (aG W p) (aG W q)) (WB++acc) ch2=wp):=aA (by
     have hvj:=HNI.out nx _ HJN.out
     have hvi:=HNI.out i _ HCC.out
     obtain⟨ch2,c1,c2,c3⟩:=aDq HCI.out (a:=v nx) (by rw[hvi.2,HCAM.out,hvj.2]) HPT.out
     refine⟨ch2,c1,c2,?_⟩
     have hw:cS W H s l (aG W (v nx)) (aG W (v i))=WB:=by rw[hvj.2,hvi.2,bV hvj.1,bV hvi.1];exact HWB.out
     rw[←hw]
     exact c3)
    obtain⟨ch2,c1,c2,c3⟩:=REL.out
    have C2:=aA c2
    have C3:=aA c3
    have OF:Hid (Own cellE wr we.heap.size 28 v9 (WB++acc)):=aA ((O9.out.lower HZZ.out).ext HXK.out)
    have XF:=aA (HX.out.trans (XE.out.trans XKZ.out))
    have HSF:Hid (A.st (v nx)≠0):=aA (by rw[(HNI.out nx _ HJN.out).2];exact HSA.out)
    clear c2 c3 REL
    go_wp2_with fail
    go_roundg ch2.length
    case measure=>omega
    exact⟨ch2,WB++acc,nx,rfl,hjnm,rfl,OF.out,XF.out,C2.out,HSF.out,C3.out,by have:=HAL.out;have:=HWL.out;rw[List.length_append];omega⟩
  as_aux_lemma=>
  have hq: ∀w,(Op.equalIn 10000 28 (.agg #[.int .i64 cx, .int .i64 cy]) (.agg #[.int .i64 tx, .int .i64 ty])).run Tryz.prog w= .ok false w:=fun w=>by rw[show(Value.agg #[.int .i64 cx, .int .i64 cy])= .agg #[.int .i64 (cx,cy).1, .int .i64 (cx,cy).2] from rfl,show(Value.agg #[.int .i64 tx, .int .i64 ty])= .agg #[.int .i64 (tx,ty).1, .int .i64 (tx,ty).2] from rfl,bC (cx,cy) (tx,ty) w,bB,decide_eq_false he]
  have HE:=aA he
  clear he
  refine aS w8 [(0,true),(1,true),(2,true),(3,true),(4,true),(5,true)] (fun hK0=> ?_)
  iterate 6 (refine SeqH.fr1 ?_;try simp only[zz])
  refine SeqH.done ?_
  have XE:=aA hK0.2
  clear hK0 d0 d1 zn t0 t1 tz hq
  go_upto_region 38 with(fail)
  obtain⟨we,hwe⟩: ∃z,z=w8.drew:=⟨_,rfl⟩
  rw[←hwe]at XE⊢
  have X4E:=aA (X48.out.trans XE.out)
  have RE:Hid (gD W NL v s0 w4.heap.size gs gg gc m (A.settle (v j)) we):=aA (by obtain⟨cm,h1,h2⟩:=R8.out;exact⟨cm,h1.ext XE.out,h2⟩)
  have TE:=aA (T8.out.trans (Touch.of_ext XE.out))
  clear hwe XE ON8 TO8 R8 T8 X48
  have ONE:=aA (ON.out.ext X4E.out)
  obtain⟨nb2,no2,hna2,zn,hcc⟩:=gM ONE.out.reads HCJ.out
  obtain⟨rfl,rfl⟩:nb=nb2∧no=no2:=by injection hna2 with h;injection h with h1 h2;exact⟨h1,h2⟩
  have d0:=hcc 0 _ rfl
  have d1:=hcc 1 _ rfl
  simp only[cellE,Nat.add_zero,←Nat.add_assoc]at d0 d1
  have HLC:=aA (HLG.out we (X4.out.trans X4E.out) (cx,cy) HCIN.out (some ⟨nb,no,none⟩) nc (Reads.rowC (n:=m) (c:=nc) ONE.out.reads).2)
  have hleg:=HLS.out j (cx,cy) HCJ.out
  have hlenL:=HLN2.out (cx,cy)
  obtain⟨LL,hLL⟩: ∃z,cB W H s l (aD W H s l) (fx,fy) (tx,ty) (cx,cy)=z:=⟨_,rfl⟩
  rw[hLL]at HLC hleg hlenL
  have HLEG:=aA hleg
  have HLENL:=aA hlenL
  clear hcc hna2 hleg hlenL hLL
  go_wp2_with fail
  refine HLC.out.mono ?_
  rintro e w9 ⟨vL,rfl,x9,oL⟩
  obtain⟨la,lc,rfl⟩:=oL.slice
  rw[qA]at oL⊢
  obtain⟨u,hu⟩: ∃z,LL.length=z:=⟨_,rfl⟩
  have HU:=aA hu
  have hub:=HLENL.out
  rw[hu]at oL hub⊢
  have OL:=aA oL
  have R9:Hid (gD W NL v s0 w4.heap.size gs gg gc m (A.settle (v j)) w9):=aA (by obtain⟨cm,h1,h2⟩:=RE.out;exact⟨cm,h1.ext x9,h2⟩)
  have T9:=aA (TE.out.trans (Touch.of_ext x9))
  have HG3:Hid (gs<we.heap.size∧gg<we.heap.size∧gc<we.heap.size):=aA (by obtain⟨cm,h1,_⟩:=RE.out;exact⟨h1.lt.1.2,h1.lt.2.1.2,h1.lt.2.2.2⟩)
  clear x9 oL hu RE TE ONE X4E d0 d1 zn HLC
  go_wp2_with fail
  go_loopw [23] (fun kv wx=> ∃k:Nat,k≤u∧kv= .int .i64 (k:Int)∧gD W NL v s0 w4.heap.size gs gg gc m (rls (v j) (A.settle (v j)) ((LL.take k).map fun q=>(aC W q.1,q.2))) wx∧Touch (fun k=>k=gs∨k=gg∨k=gc) w9 wx) (fun kv _=>u-(intOf kv).toNat)
  case atStart=>exact⟨0,Nat.zero_le _,rfl,R9.out,Touch.refl _ _⟩
  obtain⟨k,hk,rfl,hr2,ht2⟩:=hrel
  have R2:=aA hr2
  have T2:=aA ht2
  clear hr2 ht2 R9
  by_cases hku:k<u
  ·obtain⟨⟨cto,x⟩,hqx⟩: ∃z,LL[k]? =some z:=⟨_,zG (by rw[HU.out];exact hku)⟩
   obtain⟨⟨jt,hjt⟩,hx1,hx2⟩:=HLEG.out.2 _ (List.mem_of_getElem? hqx)
   simp only at hjt hx1 hx2
   have hjtm:jt<m:=by rw[←HM.out];exact(zJ hjt).1
   have hvjt:=(HNI.out jt cto hjt).2
   obtain⟨A2,hA2⟩: ∃z,rls (v j) (A.settle (v j)) ((LL.take k).map fun q=>(aC W q.1,q.2))=z:=⟨_,rfl⟩
   have HS2:Hid (A2.st (v j)=2∧A2.g (v j)=A.g (v j)):=aA (by
    rw[←hA2]
    have hst:(A.settle (v j)).st (v j)=2:=cC _ _ _
    have:=aA9 (v j) ((LL.take k).map fun q=>(aC W q.1,q.2)) (A.settle (v j)) (v j) hst
    exact⟨this.1,this.2.1⟩)
   have HNX:Hid (rls (v j) (A.settle (v j)) ((LL.take (k+1)).map fun q=>(aC W q.1,q.2))=rl (v j) A2 (v jt,x)):=aA (by
    rw[List.take_add_one,hqx,List.map_append,Option.toList_some,List.map_cons,List.map_nil]
    unfold rls at hA2⊢
    rw[List.foldl_append,hA2,hvjt]
    rfl)
   rw[hA2]at R2
   have HQX:=aA hqx
   have HJT:=aA hjt
   have HJTM:=aA hjtm
   have HX12:=aA (And.intro hx1 hx2)
   have HVJT:=aA hvjt
   clear hqx hjt hx1 hx2 hjtm hvjt hA2
   go_wp2_with fail
   go_loopw [24] (fun iv wi=> ∃i:Nat,i≤m∧iv= .int .i64 (i:Int)∧gD W NL v s0 w4.heap.size gs gg gc m (gR (v j) A2 (v jt,x) v jt i) wi∧Touch (fun k=>k=gs∨k=gg∨k=gc) w9 wi) (fun iv _=>m-(intOf iv).toNat)
   case atStart=>exact⟨0,Nat.zero_le _,rfl,by unfold gR;rw[if_neg (Nat.not_lt_zero _)];exact R2.out,T2.out⟩
   obtain⟨i,hi,rfl,hr3,ht3⟩:=hrel
   have T3b:=aA ht3
   have HT7:=aA (T9.out.trans ht3)
   obtain⟨xr,hz4,hz7⟩:=HW.out _ HT7.out
   have ONR:=aA (ON.out.ext xr)
   have hg3:=HG3.out
   have OLR:=aA (Own.touch OL.out ht3 (fun p hp e=>by have:=(aF OL.out (k:=p) hp).1;omega))
   by_cases him:i<m
   ·obtain⟨cm,h1,h2⟩:=hr3
    have H1:=aA h1
    have H2:=aA h2
    obtain⟨c,hc⟩: ∃c,NL[i]? =some c:=⟨_,zG (by rw[HM.out];exact him)⟩
    have HCI:=aA hc
    obtain⟨nb3,no3,hna3,zn,hcc⟩:=gM ONR.out.reads hc
    obtain⟨rfl,rfl⟩:nb=nb3∧no=no3:=by injection hna3 with h;injection h with h1 h2;exact⟨h1,h2⟩
    have d0:=hcc 0 _ rfl
    have d1:=hcc 1 _ rfl
    obtain⟨lb,lo,hla,zl,hlc⟩:=gM OLR.out.reads (show(cT (cx,cy) LL)[k]? =some ((cx,cy),cto,x) by unfold cT;rw[List.getElem?_map,HQX.out];rfl)
    have e0:=hlc 0 _ rfl
    have e1:=hlc 1 _ rfl
    have e2:=hlc 2 _ rfl
    have e3:=hlc 3 _ rfl
    have e4:=hlc 4 _ rfl
    obtain⟨ix,iy⟩:=c
    obtain⟨ox,oy⟩:=cto
    simp only[cellE,Nat.add_zero,←Nat.add_assoc]at d0 d1
    simp only[legE,Nat.add_zero,←Nat.add_assoc]at e0 e1 e2 e3 e4
    subst hla
    have sc:=(h1.st.cell him).1
    have gz0:=h1.lt.1.2
    have gz1:=h1.lt.2.1.2
    have gvj:=(h1.g.cell HJM.out).1
    have gvi:=(h1.g.cell him).1
    have j1:(i:Int)<(m:Int):=by omega
    have j2:(j:Int)<(m:Int):=by have:=HJM.out;omega
    have j3:(k:Int)<(u:Int):=by omega
    obtain⟨A3,hA3⟩: ∃z,gR (v j) A2 (v jt,x) v jt i=z:=⟨_,rfl⟩
    have HA3:=aA hA3
    have HG3v:Hid (A3.g (v j)=A.g (v j)):=aA (by
     rw[←hA3]
     unfold gR
     split
     ·exact(uA (v j) A2 (v jt,x) (v j) HS2.out.1).2.1.trans HS2.out.2
     exact HS2.out.2)
    rw[hA3]at sc gvj gvi H1 H2
    rw[HG3v.out]at gvj
    have hgb:=HGVJ.out
    have hxb:=HX12.out
    have k5:IntKind.u64.wrap (A.g (v j)+x)=A.g (v j)+x:=by rw[IntKind.wrap_u64];omega
    clear h1 h2 hc hcc hna3 hlc hA3 ht3 xr hgb hxb
    go_wp2_with fail
    refine aS wr [(0,true),(1,true),(2,true),(3,true),(4,true),(5,true),(6,true),(7,true),(8,true),(9,true),(10,true)] (fun hK0=> ?_)
    iterate 11 (refine SeqH.fr1 ?_;try simp only[zz])
    refine SeqH.done ?_
    have XE:=aA hK0.2
    clear hK0
    go_upto_region 46 with(fail)
    obtain⟨wf,hwf⟩: ∃z,z=wr.drew:=⟨_,rfl⟩
    have hcell: ∀p,wf.cell? p=wr.cell? p:=fun p=>by rw[hwf];rfl
    have hsz:wf.heap.size=wr.heap.size:=by rw[hwf];rfl
    rw[←hwf]at XE⊢
    rw[←hcell]at d0 d1 e0 e1 e2 e3 e4 sc gvi
    rw[←hsz]at zn zl gz0 gz1
    have HF:=aA (H1.out.ext XE.out)
    have TF:=aA (T3b.out.trans (Touch.of_ext XE.out))
    have SAME:Hid (gR (v j) A2 (v jt,x) v jt (i+1)=A3→ ∀w',Ext wf w'→ ∃i2:Nat,i2≤m∧Value.int .i64 ((i:Int)+1)= .int .i64 (i2:Int)∧gD W NL v s0 w4.heap.size gs gg gc m (gR (v j) A2 (v jt,x) v jt i2) w'∧Touch (fun k=>k=gs∨k=gg∨k=gc) w9 w'):=aA (fun hs w' hx=>⟨i+1,by omega,by go_num,by rw[hs];exact⟨cm,HF.out.ext hx,H2.out⟩,TF.out.trans (Touch.of_ext hx)⟩)
    clear hcell hsz hwf gvj k5 XE
    by_cases he2:(ix,iy)=(ox,oy)
    ·have hq: ∀w,(Op.equalIn 10000 28 (.agg #[.int .i64 ix, .int .i64 iy]) (.agg #[.int .i64 ox, .int .i64 oy])).run Tryz.prog w= .ok true w:=fun w=>by rw[show(Value.agg #[.int .i64 ix, .int .i64 iy])= .agg #[.int .i64 (ix,iy).1, .int .i64 (ix,iy).2] from rfl,show(Value.agg #[.int .i64 ox, .int .i64 oy])= .agg #[.int .i64 (ox,oy).1, .int .i64 (ox,oy).2] from rfl,bC (ix,iy) (ox,oy) w,bB,decide_eq_true he2]
     have hij:i=jt:=HINJ.out i jt him HJTM.out (by rw[(HNI.out i _ HCI.out).2,HVJT.out,he2])
     have hA32:A3=A2:=by rw[←HA3.out];unfold gR;rw[if_neg (by omega)]
     have HRL:Hid (gR (v j) A2 (v jt,x) v jt (i+1)=if A3.takes (v i) (A.g (v j)+x) then A3.put (v i) (A.g (v j)+x) (v j) else A3):=aA (by
      unfold gR
      rw[if_pos (by omega),←hij,←hA32]
      unfold rl
      rw[HG3v.out])
     have TAKE:Hid (A3.takes (v i) (A.g (v j)+x)→ ∀wz,Ext wf wz→ ∃i2:Nat,i2≤m∧Value.int .i64 ((i:Int)+1)= .int .i64 (i2:Int)∧gD W NL v s0 w4.heap.size gs gg gc m (gR (v j) A2 (v jt,x) v jt i2) (fD ((wz.setCell ⟨gs,i,none⟩ (.int .i64 1)).setCell ⟨gg,i,none⟩ (.int .u64 (A.g (v j)+x))) gc (i*5) [.int .i64 cx, .int .i64 cy, .int .i64 ox, .int .i64 oy, .int .u64 x])∧Touch (fun k=>k=gs∨k=gg∨k=gc) w9 (fD ((wz.setCell ⟨gs,i,none⟩ (.int .i64 1)).setCell ⟨gg,i,none⟩ (.int .u64 (A.g (v j)+x))) gc (i*5) [.int .i64 cx, .int .i64 cy, .int .i64 ox, .int .i64 oy, .int .u64 x])):=aA (fun ht wz hwz=>by
      have hin: ∀p,p<m→v p=v i→p=i:=fun p hp e=>HINJ.out p i hp him e
      refine⟨i+1,by omega,by go_num,⟨cm.set i ((cx,cy),(ox,oy),x),?_,?_⟩,?_⟩
      ·rw[HRL.out,if_pos ht]
       exact(HF.out.ext hwz).put him hin (A.g (v j)+x) (v j) ((cx,cy),(ox,oy),x)
      ·rw[HRL.out,if_pos ht]
       have hcv:aG W (v j)=(cx,cy):=by rw[HVJ.out];exact bV HCIN.out
       have:=H2.out.put (j:=i) (c:=(ix,iy)) HCI.out (by rw[HF.out.len];exact him) (fun p hp e=>hin p (by rw[←HF.out.len];exact hp) e) (by rw[HM.out,HF.out.len]) (A.g (v j)+x) x (v j)
       rw[hcv,he2]at this
       exact this
      exact((((TF.out.trans (Touch.of_ext hwz)).setCell (p:=⟨gs,i,none⟩) (.inl (.inl rfl)) _).setCell (p:=⟨gg,i,none⟩) (.inl (.inr (.inl rfl))) _).trans ((cY gc _ _ _).mono (fun p _ e=> .inr (.inr e)))))
     have hsne:=HF.out.ne
     have n0:=hsne.1
     have n1:=hsne.2.1
     have n2:=hsne.2.2
     have n0':gg≠gs:=fun e=>n0 e.symm
     have n1':gc≠gs:=fun e=>n1 e.symm
     have n2':gc≠gg:=fun e=>n2 e.symm
     have hlb:=(aF OL.out (k:=lb) rfl).1
     have m0:lb≠gs:=by omega
     have m1:lb≠gg:=by omega
     have m2:lb≠gc:=by omega
     have m0':gs≠lb:=fun e=>m0 e.symm
     have m1':gg≠lb:=fun e=>m1 e.symm
     have m2':gc≠lb:=fun e=>m2 e.symm
     have f0:=(HF.out.st.cell him).2
     have f1:=(HF.out.g.cell him).2
     have hz:=HF.out.lt.2.2.2
     obtain⟨⟨c0,b0⟩,p0⟩:=kZ HF.out.came (by rw[HF.out.len];exact him) (t:=0) (by decide)
     obtain⟨⟨c1,b1⟩,p1⟩:=kZ HF.out.came (by rw[HF.out.len];exact him) (t:=1) (by decide)
     obtain⟨⟨c2,b2⟩,p2⟩:=kZ HF.out.came (by rw[HF.out.len];exact him) (t:=2) (by decide)
     obtain⟨⟨c3,b3⟩,p3⟩:=kZ HF.out.came (by rw[HF.out.len];exact him) (t:=3) (by decide)
     obtain⟨⟨c4,b4⟩,p4⟩:=kZ HF.out.came (by rw[HF.out.len];exact him) (t:=4) (by decide)
     simp only[Nat.add_zero]at b0 p0
     clear hij hA32 he2 hsne hlb hg3
     by_cases h0:A3.st (v i)=0
     ·rw[h0]at sc
      have TK:=aA (TAKE.out (.inl h0))
      clear h0 TAKE SAME HRL
      go_quiet (fail)
      go_wp2_with fail
      go_roundw
      case rel=>exact TK.out _ z_x
      simp[intOf];omega
     by_cases h1:A3.st (v i)=1
     ·rw[h1]at sc
      by_cases hl2:A.g (v j)+x<A3.g (v i)
      ·have hlb:decide (A.g (v j)+x<A3.g (v i))=true:=by simpa using hl2
       have TK:=aA (TAKE.out (.inr ⟨h1,hl2⟩))
       clear h0 h1 hl2 TAKE SAME HRL
       go_quiet (fail)
       go_wp2_with fail
       go_roundw
       case rel=>exact TK.out _ z_x
       simp[intOf];omega
      have hlb:decide (A.g (v j)+x<A3.g (v i))=false:=by simpa using hl2
      have SM:=aA (SAME.out (by rw[HRL.out,if_neg (fun h=>h.elim h0 (fun h=>hl2 h.2))]))
      clear h0 h1 hl2 TAKE SAME HRL
      go_quiet (fail)
      go_wp2_with fail
      go_roundw
      case rel=>exact SM.out _ z_x
      simp[intOf];omega
     have e5:((A3.st (v i):Int)==0)=false:=by simp;omega
     have e6:((A3.st (v i):Int)==1)=false:=by simp;omega
     have SM:=aA (SAME.out (by rw[HRL.out,if_neg (fun h=>h.elim h0 (fun h=>h1 h.1))]))
     generalize (A3.st (v i):Int)=sti at *
     clear h0 h1 TAKE SAME HRL
     go_quiet (fail)
     go_wp2_with fail
     go_roundw
     case rel=>exact SM.out _ z_x
     simp[intOf];omega
    have hq: ∀w,(Op.equalIn 10000 28 (.agg #[.int .i64 ix, .int .i64 iy]) (.agg #[.int .i64 ox, .int .i64 oy])).run Tryz.prog w= .ok false w:=fun w=>by rw[show(Value.agg #[.int .i64 ix, .int .i64 iy])= .agg #[.int .i64 (ix,iy).1, .int .i64 (ix,iy).2] from rfl,show(Value.agg #[.int .i64 ox, .int .i64 oy])= .agg #[.int .i64 (ox,oy).1, .int .i64 (ox,oy).2] from rfl,bC (ix,iy) (ox,oy) w,bB,decide_eq_false he2]
    have hij:i≠jt:=fun e=>he2 (by have h1:=HCI.out;rw[e,HJT.out]at h1;injection h1 with h1;exact h1.symm)
    have hsn:gR (v j) A2 (v jt,x) v jt (i+1)=A3:=by
     rw[←HA3.out]
     unfold gR
     by_cases e:jt<i
     ·rw[if_pos e,if_pos (by omega)]
     rw[if_neg e,if_neg (by omega)]
    have SM:=aA (SAME.out hsn)
    clear hsn
    clear he2 hij SAME
    go_quiet (fail)
    go_wp2_with fail
    go_roundw
    case rel=>exact SM.out _ z_x
    simp[intOf];omega
   obtain rfl:m=i:=by omega
   have RN:=aA (show gD W NL v s0 w4.heap.size gs gg gc m (rls (v j) (A.settle (v j)) ((LL.take (k+1)).map fun q=>(aC W q.1,q.2))) wr by rw[HNX.out];unfold gR at hr3;rw[if_pos HJTM.out]at hr3;exact hr3)
   clear hr3 ht3 xr
   go_wp2_with fail
   go_roundw
   case rel=>exact⟨k+1,by omega,by go_num,RN.out,T3b.out⟩
   simp[intOf];omega
  obtain rfl:u=k:=by omega
  have HFIN:Hid (gD W NL v s0 w4.heap.size gs gg gc m (eG GG A (v j)) wr):=aA (by
   have:=R2.out
   rw[←HU.out,List.take_length,←HLEG.out.1]at this
   exact this)
  have hcn2:(eG GG A (v j)).cnt=A.cnt+1:=aDc GG A (v j)
  have HCN2:=aA hcn2
  have HIS:=aA (qG II.out HST.out)
  have hopn:=II.out.opens HST.out
  rw[HGN.out]at hopn
  have HAF:Hid (∀p cc k er,LRun GG W (aC W (tx,ty)) b (eB W H s l (fx,fy)) (eG GG A (v j)) p cc k er→LRun GG W (aC W (tx,ty)) b (eB W H s l (fx,fy)) (aY s0) p cc k er):=aA (fun p cc k er r=>HA.out _ _ _ _ (LRun.next HB.out HBUD.out (fun e=>HE.out (oC HCIN.out HTI.out (by rw[←HVJ.out];exact e))) r))
  have TF:=aA (T9.out.trans T2.out)
  clear hcn2
  go_wp2_with fail
  go_roundw
  case rel=>exact⟨eG GG A (v j),by rw[HCN2.out],HIS.out,HFIN.out,HAF.out,TF.out⟩
  simp[intOf];omega
end Go.Proofs.YtaellcgglldjaaaGreat

