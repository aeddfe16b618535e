/- Part of a proof: StarK StarR StarS HierX. -/
import Derived.Test.YtaellcgglldjaaaGreatHierFindsQ39
import Derived.Test.YtaellcgglldjaaaGreatHierFindsQ18
import Derived.Test.YtaellcgglldjaaaGreatHierFindsQ21
import Derived.Test.YtaellcgglldjaaaGreatHierFindsQ46
import Derived.Test.YtaellcgglldjaaaGreatHierFindsQ23
set_option linter.all false
set_option linter.unusedVariables false
set_option linter.unusedSimpArgs false
namespace Go.Proofs.YtaellcgglldjaaaGreat
open Go.RowKit
def none0:AS:={st:=fun _=>0,g:=fun _=>0,came:=fun _=>0,cnt:=0}
theorem aHd (s:Nat):none0.put s 0 (-1)=aY s:=by
 unfold none0 AS.put aY
 congr 1
 funext v
 unfold iT
 split<;>rfl
theorem dW {W H:Int} {n:Nat} {x y tx ty b:Int} (h:eU W H n x y tx ty b=0):eA W H n 0 0 W H x y=0∧eA W H n 0 0 W H tx ty=0∧0≤b:=by
 obtain⟨h1,h2,h3,h4⟩:=findE_ok.1 h
 obtain⟨hm,hl⟩:=checkE_ok.1 h1
 have a:=mayB_true.1 hm
 have i1:=inB_true.1 h2
 have i2:=inB_true.1 h3
 exact⟨lookE_ok.2 ⟨hm,hl,fitsR_true.2 (by omega),hasB_true.2 (by omega)⟩,lookE_ok.2 ⟨hm,hl,fitsR_true.2 (by omega),hasB_true.2 (by omega)⟩,h4⟩
def aF7 (w wx:World) (W H:Int) (a:Option Addr) (n c:Nat) (tx ty:Int) (sb:Nat):Prop:=
 ∃h mg mc,w.heap.size≤sb∧w.heap.size≤mg∧w.heap.size≤mc∧SMem wx sb W H a n c tx ty h mg mc 0 (fun j=>w.heap.size≤j∧j≠sb∧j≠mg∧j≠mc) (fun _=>((0,0),(0,0))) none0 0
theorem aJ2 {w w0 w1 wx:World} {W H:Int} {a:Option Addr} {n c:Nat} {tx ty:Int} {sb h mg mc:Nat} (hb:iH wx sb W H a n c tx ty h mg mc 0) (h0:w.heap.size≤w0.heap.size) (hh:HeapIs (fun k=>w0.heap.size≤k) w1 h []) (h1:Ext w1 wx)
  (hg:MapIn Tryz.prog KU wx mg (fun _=>none) 0) (hc:MapIn Tryz.prog KM wx mc (fun _=>none) 0) (hs:w.heap.size≤sb∧w.heap.size≤mg∧w.heap.size≤mc) (ns:(sb<w0.heap.size∨w1.heap.size≤sb)∧(mg<w0.heap.size∨w1.heap.size≤mg)∧(mc<w0.heap.size∨w1.heap.size≤mc)) (ne:sb≠mg∧sb≠mc∧mg≠mc):aF7 w wx W H a n c tx ty sb:=by
 refine⟨h,mg,mc,hs.1,hs.2.1,hs.2.2,?_⟩
 have zb:=Blk.lt hb
 have zg:=hg.lt
 have zc:=hc.lt
 exact {
  sea:=hb
  gm:=⟨0,Nat.le_refl _,hg.congr (fun z=>by unfold gF none0;simp)⟩
  cm:=⟨0,Nat.le_refl _,hc.congr (fun z=>by unfold cF none0;simp)⟩
  heap:=⟨[],(hh.mono (S':=fun j=>w.heap.size≤j∧j≠sb∧j≠mg∧j≠mc) (fun k hk hS=>⟨by omega,by omega,by omega,by omega⟩)).ext h1,⟨by simp[ids],(fun t ht=>by cases ht),(fun v hv=>by unfold none0 at hv;cases hv)⟩⟩
  ns:=⟨fun y=>y.2.1 rfl,fun y=>y.2.2.1 rfl,fun y=>y.2.2.2 rfl,ne.1,ne.2.1,ne.2.2⟩
  nw:=fun j hj=>⟨by have:=Blk.lt hb;omega,by omega,by omega,by omega⟩}
theorem mZ {K:MapK} {w wx:World} {b:Nat} (hb:b=w.heap.size) (hx:Ext (w.alloc (.map #[] 0)) wx):MapIn Tryz.prog K wx b (fun _=>none) 0:=by
 subst hb
 exact(MapIn.made w).ext hx
theorem SMem.anyK {w:World} {sb:Nat} {W H:Int} {a:Option Addr} {n c:Nat} {tx ty:Int} {h mg mc:Nat} {k:Int} {S:Nat→Prop} {K K':Nat→fN} {M:Nat} (m:SMem w sb W H a n c tx ty h mg mc k S K none0 M):SMem w sb W H a n c tx ty h mg mc k S K' none0 M:=by
 have hx: ∃ts,HeapIs S w h ts∧HQ K' none0 ts:=by
  obtain⟨ts,h1,h2⟩:=m.heap
  have hts:ts=[]:=by
   cases ts with
   |nil=>rfl
   |cons t r=>obtain⟨v,_,h3⟩:=h2.thing t List.mem_cons_self;cases h3
  subst hts
  exact⟨[],h1,⟨by simp[ids],(fun t ht=>by cases ht),(fun v hv=>by unfold none0 at hv;cases hv)⟩⟩
 exact {m with heap:=hx}
set_option maxRecDepth 100000 in
set_option maxHeartbeats 8000000 in
theorem aHq {w:World} {W H:Int} {a:Option Addr} {l:List Int} (c:Nat) {x y tx ty b:Int} (he:eU W H l.length x y tx ty b=0) (hr:Row16 w a l) (hu:cV l):
  Calls Tryz.prog 25 #[.agg #[.int .i64 W, .int .i64 H, .slice a l.length c], .agg #[.int .i64 x, .int .i64 y], .agg #[.int .i64 tx, .int .i64 ty], .int .i64 b] w fun e w'=>Ext w w'∧
   (((aE (bK (dW he).1 hu)).op (aC W (x,y))=true∧(aE (bK (dW he).1 hu)).op (aC W (tx,ty))=true)→qS (aE (bK (dW he).1 hu)) W (fun v=>dN (vx W v) (vy W v) (vx W (aC W (tx,ty))) (vy W (aC W (tx,ty)))) (aC W (tx,ty)) b (aY (aC W (x,y))) w.heap.size e w')∧
   (¬((aE (bK (dW he).1 hu)).op (aC W (x,y))=true∧(aE (bK (dW he).1 hu)).op (aC W (tx,ty))=true)→e= .returned (.tuple #[.agg #[.slice none 0 0, .int .u64 0, .int .i64 0], .int .i64 22])):=by
 have hmm:= @run_makeMap Tryz.prog
 have HC:=aA (fun w'=>cX W H a l.length c w')
 have H1:=aA (fun w'=>gK W H x y w')
 have H2:=aA (fun w'=>gK W H tx ty w')
 obtain⟨e1,e2,e3,e4⟩:=findE_ok.1 he
 obtain⟨ab,aoff,ha,hab,_⟩:=gJ hr (checkE_ok.1 e1).2 (inB_true.1 e2).2.2.2.2.1 (inB_true.1 e2).2.2.2.2.2.1 (inB_true.1 e2).2.2.2.2.2.2.1 (inB_true.1 e2).2.2.2.2.2.2.2
 subst ha
 rw[e1]at HC
 rw[e2]at H1
 rw[e3]at H2
 have hb':decide (b<0)=false:=by simpa using e4
 have HL:=aA (bK (dW he).1 hu)
 have HHas:=aA (And.intro (lookE_ok.1 (dW he).1).2.2.2 (lookE_ok.1 (dW he).2.1).2.2.2)
 obtain⟨G,hG⟩: ∃G,aE HL.out=G:=⟨_,rfl⟩
 have HG:=aA hG
 rw[show aE (bK (dW he).1 hu)=G from hG]
 obtain⟨s,hs⟩: ∃s,aC W (x,y)=s:=⟨_,rfl⟩
 obtain⟨t,ht⟩: ∃t,aC W (tx,ty)=t:=⟨_,rfl⟩
 have HSX:=aA hs
 have HTX:=aA ht
 rw[hs,ht]
 have HR:=aA hr
 obtain⟨n,hn⟩: ∃n,l.length=n:=⟨_,rfl⟩
 have HN:=aA hn
 rw[hn]at HC
 rw[hn]
 have HE4:=aA e4
 clear hs ht hG e1 e2 e3 e4 he hr hu hn
 go_enter Tryz.func25,Tryz.ntmps25
 go_wp2_with fail
 refine(HC.out _).mono ?_
 rintro e w1 ⟨rfl,hb1⟩
 obtain⟨hc1,hf1⟩:=hb1.cells;have hz1:=hb1.size;(try simp only[zS]at hz1);have z1_0:w.heap.size<w1.heap.size:=(by omega);have z1_1:w.heap.size+1<w1.heap.size:=(by omega);have z1_2:w.heap.size+2<w1.heap.size:=(by omega);have z1_3:w.heap.size+3<w1.heap.size:=(by omega)
 go_wp2_with fail
 refine(H1.out _).mono ?_
 rintro e w2 ⟨rfl,hb2⟩
 obtain⟨hc2,hf2⟩:=hb2.cells;have hz2:=hb2.size;(try simp only[zS]at hz2);have z2_0:w.heap.size<w2.heap.size:=(by omega);have z2_1:w.heap.size+1<w2.heap.size:=(by omega);have z2_2:w.heap.size+2<w2.heap.size:=(by omega);have z2_3:w.heap.size+3<w2.heap.size:=(by omega)
 go_wp2_with fail
 refine(H2.out _).mono ?_
 rintro e w3 ⟨rfl,hb3⟩
 have BF:Hid (Blk w3 (w.heap.size) 26 #[.int .i64 W, .int .i64 H, .slice (some ⟨ab,aoff,none⟩) n c]):=aA (by refine Blk.ext ?_ ((hb1.trans hb2).trans hb3);(repeat' (first|exact Blk.new_ (by simp)|refine Blk.drew ?_|refine Blk.over ?_)))
 have BO:Hid (Blk w3 (w.heap.size+1) 28 #[.int .i64 x, .int .i64 y]):=aA (by refine Blk.ext ?_ ((hb1.trans hb2).trans hb3);(repeat' (first|exact Blk.new_ (by simp)|refine Blk.drew ?_|refine Blk.over ?_)))
 have BT:Hid (Blk w3 (w.heap.size+2) 28 #[.int .i64 tx, .int .i64 ty]):=aA (by refine Blk.ext ?_ ((hb1.trans hb2).trans hb3);(repeat' (first|exact Blk.new_ (by simp)|refine Blk.drew ?_|refine Blk.over ?_)))
 have BR:Hid (Blk w3 (w.heap.size+3) 40 #[.slice none 0 0, .int .u64 0, .int .i64 0]):=aA (by refine Blk.ext ?_ ((hb1.trans hb2).trans hb3);(repeat' (first|exact Blk.new_ (by simp)|refine Blk.drew ?_|refine Blk.over ?_)))
 have hx3:Ext w w3:=z_x
 have hz3:w.heap.size+4≤w3.heap.size:=by have:=hb2.size;have:=hb3.size;omega
 have HX3:=aA hx3
 have B0:w3.cell? ⟨w.heap.size,0,none⟩=some (.int .i64 W):=BF.out.at 0 rfl
 have B1:w3.cell? ⟨w.heap.size,1,none⟩=some (.int .i64 H):=BF.out.at 1 rfl
 have B2:w3.cell? ⟨w.heap.size,2,none⟩=some (.slice (some ⟨ab,aoff,none⟩) n c):=BF.out.at 2 rfl
 have T0:w3.cell? ⟨w.heap.size+2,0,none⟩=some (.int .i64 tx):=BT.out.at 0 rfl
 have T1:w3.cell? ⟨w.heap.size+2,1,none⟩=some (.int .i64 ty):=BT.out.at 1 rfl
 have zf:w.heap.size<w3.heap.size:=by omega
 have zt:w.heap.size+2<w3.heap.size:=by omega
 clear hc1 hc2 hf1 hf2 hb1 hb2 hb3 hz1 hz2 z1_0 z1_1 z1_2 z1_3 z2_0 z2_1 z2_2 z2_3 hx3 HC H1 H2
 go_upto_region 8 with(fail)
 go_cut [11] (fun s11 wx=> ∃sb,s11= .pointer (some ⟨sb,0,none⟩)∧aF7 w3 wx W H (some ⟨ab,aoff,none⟩) n c tx ty sb∧Ext w3 wx)
 case rest=>
  obtain⟨sb,rfl,hF,hxw⟩:=hcut
  have BF2:=aA (Blk.ext BF.out hxw)
  have BO2:=aA (Blk.ext BO.out hxw)
  have BT2:=aA (Blk.ext BT.out hxw)
  have BR2:=aA (Blk.ext BR.out hxw)
  have HXW:=aA (HX3.out.trans hxw)
  have hzw:=hxw.size
  clear hxw B0 B1 B2 T0 T1 BF BO BT BR zf zt hmm
  obtain⟨h,mg,mc,s1,s2,s3,m⟩:=hF
  have M:=aA m
  clear m
  have i1:=hasB_true.1 HHas.out.1
  have i2:=hasB_true.1 HHas.out.2
  have HCO:=aA (fun(w':World) (hx:Ext wc w') (u v:Int) (h1:0≤u∧u<W∧0≤v∧v<H)=>qO (w:=w') (sb:=sb) (W:=W) (H:=H) (l:=l) (c:=c) (tx:=tx) (ty:=ty) (h:=h) (mg:=mg) (mc:=mc) (k:=0) (by rw[HN.out];exact Blk.ext M.out.sea hx) HL.out.may HL.out.len (HR.out.ext (HXW.out.trans hx)) HL.out.u16 u v h1.1 h1.2.1 h1.2.2.1 h1.2.2.2)
  have HC1:=aA (fun(w':World) (hx:Ext wc w')=>HCO.out w' hx x y (by omega))
  have HC2:=aA (fun(w':World) (hx:Ext wc w')=>HCO.out w' hx tx ty (by omega))
  clear HCO
  have o0:wc.cell? ⟨w.heap.size+1,0,none⟩=some (.int .i64 x):=BO2.out.at 0 rfl
  have o1:wc.cell? ⟨w.heap.size+1,1,none⟩=some (.int .i64 y):=BO2.out.at 1 rfl
  have zo:w.heap.size+1<wc.heap.size:=by omega
  have zt:w.heap.size+2<wc.heap.size:=by omega
  have hop1:G.op s=decide (0<aL l W (x,y)):=by
   rw[←HG.out,←HSX.out]
   show opV _ _ _ _=_
   rw[HL.out.opV_idx (by omega)]
   unfold bD
   rw[HHas.out.1]
   simp
  have hop2:G.op t=decide (0<aL l W (tx,ty)):=by
   rw[←HG.out,←HTX.out]
   show opV _ _ _ _=_
   rw[HL.out.opV_idx (by omega)]
   unfold bD
   rw[HHas.out.2]
   simp
  have HO1:=aA hop1
  have HO2:=aA hop2
  have bd1:=bX HL.out.u16 W (x,y)
  have bd2:=bX HL.out.u16 W (tx,ty)
  generalize aL l W (x,y)=c1 at *
  generalize aL l W (tx,ty)=c2 at *
  clear hop1 hop2
  by_cases hz1:c1=0
  ·subst hz1
   have hno: ¬(G.op s=true∧G.op t=true):=fun y=>by have:=HO1.out;rw[y.1]at this;simp at this
   have HNO:=aA hno
   clear hno
   go_wp2_with fail
   refine(HC1.out _ (Ext.refl _)).mono ?_
   rintro e w5 ⟨rfl,hx5⟩
   have BR5:=aA (Blk.ext BR2.out hx5)
   have r0:w5.cell? ⟨w.heap.size+3,0,none⟩=some (.slice none 0 0):=BR5.out.at 0 rfl
   have r1:w5.cell? ⟨w.heap.size+3,1,none⟩=some (.int .u64 0):=BR5.out.at 1 rfl
   have r2:w5.cell? ⟨w.heap.size+3,2,none⟩=some (.int .i64 0):=BR5.out.at 2 rfl
   have f0:=BR5.out.frozen 0
   have f1:=BR5.out.frozen 1
   have f2:=BR5.out.frozen 2
   go_wp2_with fail
   have hx05:Ext w w5:=HXW.out.trans hx5
   clear hx5
   exact bodyPost_ret (v:= .tuple #[.agg #[.slice none 0 0, .int .u64 0, .int .i64 0], .int .i64 22]) (by simp[results,Tryz.results25,go_sem, *]) rfl ⟨z_x,(fun hh=>absurd hh HNO.out),fun _=>rfl⟩
  have hq1:(c1==0)=false:=by simpa using hz1
  by_cases hz2:c2=0
  ·subst hz2
   have hno: ¬(G.op s=true∧G.op t=true):=fun y=>by have:=HO2.out;rw[y.2]at this;simp at this
   have HNO:=aA hno
   clear hno
   go_wp2_with fail
   refine(HC1.out _ (Ext.refl _)).mono ?_
   rintro e w4 ⟨rfl,hx4⟩
   have t0:w4.cell? ⟨w.heap.size+2,0,none⟩=some (.int .i64 tx):=(Blk.ext BT2.out hx4).at 0 rfl
   have t1:w4.cell? ⟨w.heap.size+2,1,none⟩=some (.int .i64 ty):=(Blk.ext BT2.out hx4).at 1 rfl
   go_wp2_with fail
   refine(HC2.out _ hx4).mono ?_
   rintro e w5 ⟨rfl,hx45⟩
   have hx5:=hx4.trans hx45
   clear hx4 hx45 t0 t1
   have BR5:=aA (Blk.ext BR2.out hx5)
   have r0:w5.cell? ⟨w.heap.size+3,0,none⟩=some (.slice none 0 0):=BR5.out.at 0 rfl
   have r1:w5.cell? ⟨w.heap.size+3,1,none⟩=some (.int .u64 0):=BR5.out.at 1 rfl
   have r2:w5.cell? ⟨w.heap.size+3,2,none⟩=some (.int .i64 0):=BR5.out.at 2 rfl
   have f0:=BR5.out.frozen 0
   have f1:=BR5.out.frozen 1
   have f2:=BR5.out.frozen 2
   go_wp2_with fail
   have hx05:Ext w w5:=HXW.out.trans hx5
   clear hx5
   exact bodyPost_ret (v:= .tuple #[.agg #[.slice none 0 0, .int .u64 0, .int .i64 0], .int .i64 22]) (by simp[results,Tryz.results25,go_sem, *]) rfl ⟨z_x,(fun hh=>absurd hh HNO.out),fun _=>rfl⟩
  have hq2:(c2==0)=false:=by simpa using hz2
  have hs:=HSX.out
  have ht:=HTX.out
  have vs:vx W s=x∧vy W s=y:=by rw[←hs];exact⟨dQ i1.1 (by omega) i1.2.2.1,dR i1.1 (by omega) i1.2.2.1⟩
  have vt:vx W t=tx∧vy W t=ty:=by rw[←ht];exact⟨dQ i2.1 (by omega) i2.2.2.1,dR i2.1 (by omega) i2.2.2.1⟩
  have hos:G.op s=true:=by rw[HO1.out];simp;omega
  have hot:G.op t=true:=by rw[HO2.out];simp;omega
  have hsn:=HL.out.idx_lt (x:=x) (y:=y) (by omega)
  have htn:=HL.out.idx_lt (x:=tx) (y:=ty) (by omega)
  rw[hs,HN.out]at hsn
  rw[ht,HN.out]at htn
  have wh:=HL.out.wh
  rw[HN.out]at wh
  obtain⟨S,hS⟩: ∃S:Nat→Prop,(fun j=>w3.heap.size≤j∧j≠sb∧j≠mg∧j≠mc)=S:=⟨_,rfl⟩
  have HSS:=aA (fun j=>(congrFun hS j).symm)
  rw[hS]at M
  have HRE:=aA (fun(w':World) (hx:Ext wc w')=>uD (A:=none0) (fun v=>dN (vx W v) (vy W v) tx ty) ((M.out.anyK (K':=kOf W (fun v=>dN (vx W v) (vy W v) tx ty) none0)).ext hx) (by omega) (v:=s) (by rw[vs.1,vs.2];omega) (by omega) (by omega) (by omega) (by omega) rfl (fun u hu=>absurd rfl hu) 0 (-1) (by omega) (by omega) rfl)
  rw[vs.1,vs.2,aHd]at HRE
  obtain⟨D,F⟩:=aG4 (aE HL.out) s (by rw[HG.out];exact hos)
  have HRU:=aA (fun(w':World) m hr' hab'=>aK4 (w:=w') (sb:=sb) (W:=W) (H:=H) (ab:=ab) (aoff:=aoff) (l:=l) (c:=c) (h:=h) (mg:=mg) (mc:=mc) (S:=S) (A0:=aY s) (M0:=1) (s:=s) (t:=t) HL.out F (uG (by rw[HG.out];exact hos) F) (by rw[HG.out];exact hot) rfl (by omega) m hr' hab' b)
  rw[HN.out,HG.out,vt.1,vt.2]at HRU
  have HYES:=aA (And.intro hos hot)
  have HVT:=aA vt
  have HW7:Hid (∀k,(S k∨k=sb∨k=mg∨k=mc)→w3.heap.size≤k):=aA (fun k y=>by
   rw[HSS.out]at y
   rcases y with y|y|y|y<;>omega)
  have o0':=o0
  clear hos hot hs ht hS F vs hsn htn o0' vt
  go_wp2_with fail
  refine(HC1.out _ (Ext.refl _)).mono ?_
  rintro e w4 ⟨rfl,hx4⟩
  have t0:w4.cell? ⟨w.heap.size+2,0,none⟩=some (.int .i64 tx):=(Blk.ext BT2.out hx4).at 0 rfl
  have t1:w4.cell? ⟨w.heap.size+2,1,none⟩=some (.int .i64 ty):=(Blk.ext BT2.out hx4).at 1 rfl
  go_wp2_with fail
  refine(HC2.out _ hx4).mono ?_
  rintro e w5 ⟨rfl,hx45⟩
  have hx5:=hx4.trans hx45
  have HX5:=aA hx5
  have o05:w5.cell? ⟨w.heap.size+1,0,none⟩=some (.int .i64 x):=(Blk.ext BO2.out hx5).at 0 rfl
  have o15:w5.cell? ⟨w.heap.size+1,1,none⟩=some (.int .i64 y):=(Blk.ext BO2.out hx5).at 1 rfl
  clear hx4 hx45 t0 t1 hx5
  go_wp2_with fail
  refine(HRE.out _ HX5.out).mono ?_
  rintro e w6 ⟨rfl,m6,t6⟩
  have T6:=aA t6
  have M6:=aA m6
  have hzx6:=t6.size
  have hzx5:=HX5.out.size
  have BR5:=aA (Blk.ext BR2.out HX5.out)
  have HX05:=aA (HXW.out.trans HX5.out)
  have hrow6:Row16 w6 (some ⟨ab,aoff,none⟩) l:=(HR.out.ext HX05.out).touch t6 (fun b0 o e=>by cases e;exact fun y=>by have:=HW7.out ab (y.elim .inl (fun z=> .inr (.inr z)));omega)
  have hab6: ¬S ab∧ab≠sb∧ab≠mg∧ab≠mc∧ab<w6.heap.size:=⟨fun y=>by have:=HW7.out ab (.inl y);omega,fun y=>by have:=HW7.out ab (.inr (.inl y));omega,fun y=>by have:=HW7.out ab (.inr (.inr (.inl y)));omega,fun y=>by have:=HW7.out ab (.inr (.inr (.inr y)));omega,by have:=HX05.out.size;omega⟩
  have BR6:=aA (BR5.out.touch t6 (fun y=>by have:=HW7.out _ (y.elim .inl (fun z=> .inr (.inr z)));omega))
  have HRUN:=aA (HRU.out w6 M6.out hrow6 hab6)
  clear t6 m6 hrow6 hab6 HRU
  go_wp2_with fail
  refine HRUN.out.mono ?_
  rintro e w7 ⟨⟨p,cc,k,er,v,hrun,rfl,hown⟩,t7⟩
  have HA:=aA hrun
  have HO:=aA hown
  have T7:=aA t7
  have hzx7:=t7.size
  have BR7:=aA (BR6.out.touch t7 (fun y=>by have:=HW7.out _ y;omega))
  have HXX:Hid (Ext w w7):=aA (((Touch.of_ext (S:=fun _=>False) HX05.out).after T6.out (fun j hj y=>by have:=HW7.out j (y.elim .inl (fun z=> .inr (.inr z)));omega)).after T7.out (fun j hj y=>by have:=HW7.out j y;omega)).ext
  have HZB:Hid (w.heap.size≤w6.heap.size):=aA (by omega)
  have HZ36:Hid (w.heap.size+4≤w6.heap.size):=aA (by have:=HX05.out.size;omega)
  have HRE2:Hid (qS G W (fun v=>dN (vx W v) (vy W v) (vx W t) (vy W t)) t b (aY s) w.heap.size (.returned (.tuple #[.agg #[v, .int .u64 cc, .int .i64 k], .int .i64 er])) w7):=aA (by
   rw[HVT.out.1,HVT.out.2]
   exact⟨p,cc,k,er,v,HA.out,rfl,HO.out.lower HZB.out⟩)
  have r0:w7.cell? ⟨w.heap.size+3,0,none⟩=some (.slice none 0 0):=BR7.out.at 0 rfl
  have r1:w7.cell? ⟨w.heap.size+3,1,none⟩=some (.int .u64 0):=BR7.out.at 1 rfl
  have r2:w7.cell? ⟨w.heap.size+3,2,none⟩=some (.int .i64 0):=BR7.out.at 2 rfl
  have f0:=BR7.out.frozen 0
  have f1:=BR7.out.frozen 1
  have f2:=BR7.out.frozen 2
  have HFIN:Hid (∀w',Touch (fun j=>j=w.heap.size+3) w7 w'→Ext w w'∧qS G W (fun v=>dN (vx W v) (vy W v) (vx W t) (vy W t)) t b (aY s) w.heap.size (.returned (.tuple #[.agg #[v, .int .u64 cc, .int .i64 k], .int .i64 er])) w'):=aA (fun w' tt=>⟨((Touch.of_ext (S:=fun _=>False) HXX.out).after tt (fun j hj e=>by omega)).ext,by
   obtain⟨p',cc',k',er',v',a1,a2,a3⟩:=HRE2.out
   injection a2 with a2
   refine⟨p',cc',k',er',v',a1,congrArg _ a2,Own.touch a3 tt (fun j hj e=> ?_)⟩
   injection a2 with a2
   injection a2 with a2
   injection a2 with a2 _
   injection a2 with a2
   injection a2 with a2
   injection a2 with a2 _
   subst a2
   have:=(aF HO.out hj).1
   have:=HZ36.out
   omega⟩)
  clear hrun hown t7 HA
  obtain⟨va,vc,rfl⟩:=HO.out.slice
  rw[show(p.map (aG W)).length=p.length from List.length_map _]at HFIN⊢
  have tF:Touch (fun j=>j=w.heap.size+3) w7 (((w7.setCell ⟨w.heap.size+3,0,none⟩ (.slice va p.length vc)).setCell ⟨w.heap.size+3,1,none⟩ (.int .u64 cc)).setCell ⟨w.heap.size+3,2,none⟩ (.int .i64 k)):=(((Touch.refl (fun j=>j=w.heap.size+3) w7).setCell (p:=⟨w.heap.size+3,0,none⟩) (.inl rfl) _).setCell (p:=⟨w.heap.size+3,1,none⟩) (.inl rfl) _).setCell (p:=⟨w.heap.size+3,2,none⟩) (.inl rfl) _
  have TF:=aA tF
  clear tF
  have HV2:=aA (And.intro HVT.out HYES.out)
  go_wp2_with fail
  exact bodyPost_ret (v:= .tuple #[.agg #[.slice va p.length vc, .int .u64 cc, .int .i64 k], .int .i64 er]) (by simp[results,Tryz.results25,go_sem, *]) rfl ⟨(HFIN.out _ TF.out).1,(fun _=>(HFIN.out _ TF.out).2),fun h=>absurd HYES.out h⟩
 go_region_held3 (fun W=>(∀b o,b<w3.heap.size→W.cell? ⟨b,o,none⟩=w3.cell? ⟨b,o,none⟩)∧Ext w3 W) (first|with_reducible exact bG _|exact aI z_x)
  (first|(go_at_call 42;refine(sH _).mono ?_;rintro e w4 ⟨h4,rfl,hh4,hb4,hi4⟩;have HI4:=aA hi4;have HB4:=aA hb4;have hz4:=hb4.size;clear hi4))
 all_goals (simp only[World.size_alloc,World.size_drew]at hz4;rename_i hS;have hSx:=aA hS.2;clear hS;go_wp2_with fail;go_meet;refine⟨_,rfl,?_,hSx.out⟩;apply aJ2 (w:=w3) (w1:=w4) (hh:=HI4.out);(case hb=>unfold iH;exact Blk.new_ (by simp));(case h1=>exact z_x);(case h0=>(first|with_reducible rfl|omega|(simp only[World.size_alloc,World.size_drew];done)|(simp only[World.size_alloc,World.size_drew];omega)));(case hg=>first|(refine mZ (w:=w3) ?_ ?_;(·(first|with_reducible rfl|omega|(simp only[World.size_alloc,World.size_drew];done)|(simp only[World.size_alloc,World.size_drew];omega)));(·exact z_x))|(refine mZ (w:=w4) ?_ ?_;(·(first|with_reducible rfl|omega|(simp only[World.size_alloc,World.size_drew];done)|(simp only[World.size_alloc,World.size_drew];omega)));(·exact z_x))|(refine mZ (w:=w3.alloc (.map #[] 0)) ?_ ?_;(·(first|with_reducible rfl|omega|(simp only[World.size_alloc,World.size_drew];done)|(simp only[World.size_alloc,World.size_drew];omega)));(·exact z_x))|(refine mZ (w:=w4.alloc (.map #[] 0)) ?_ ?_;(·(first|with_reducible rfl|omega|(simp only[World.size_alloc,World.size_drew];done)|(simp only[World.size_alloc,World.size_drew];omega)));(·exact z_x)));(case hc=>first|(refine mZ (w:=w3) ?_ ?_;(·(first|with_reducible rfl|omega|(simp only[World.size_alloc,World.size_drew];done)|(simp only[World.size_alloc,World.size_drew];omega)));(·exact z_x))|(refine mZ (w:=w4) ?_ ?_;(·(first|with_reducible rfl|omega|(simp only[World.size_alloc,World.size_drew];done)|(simp only[World.size_alloc,World.size_drew];omega)));(·exact z_x))|(refine mZ (w:=w3.alloc (.map #[] 0)) ?_ ?_;(·(first|with_reducible rfl|omega|(simp only[World.size_alloc,World.size_drew];done)|(simp only[World.size_alloc,World.size_drew];omega)));(·exact z_x))|(refine mZ (w:=w4.alloc (.map #[] 0)) ?_ ?_;(·(first|with_reducible rfl|omega|(simp only[World.size_alloc,World.size_drew];done)|(simp only[World.size_alloc,World.size_drew];omega)));(·exact z_x)));(case hs=>(first|with_reducible rfl|omega|(simp only[World.size_alloc,World.size_drew];done)|(simp only[World.size_alloc,World.size_drew];omega)));(case ns=>(first|with_reducible rfl|omega|(simp only[World.size_alloc,World.size_drew];done)|(simp only[World.size_alloc,World.size_drew];omega)));(case ne=>(first|with_reducible rfl|omega|(simp only[World.size_alloc,World.size_drew];done)|(simp only[World.size_alloc,World.size_drew];omega))))
end Go.Proofs.YtaellcgglldjaaaGreat

namespace Go.Proofs.YtaellcgglldjaaaGreat

def hT (W:Int) (t:Nat) (v:Nat):Int:=dN (vx W v) (vy W v) (vx W t) (vy W t)
def SrchN (G:Net) (W:Int) (s t:Nat) (b:Int) (p:List Nat) (c k e:Int):Prop:=
 (G.op s=true∧G.op t=true∧ARun G W (hT W t) t b (aY s) p c k e)∨(¬(G.op s=true∧G.op t=true)∧p=[]∧c=0∧k=0∧e=22)
def Srch (W H:Int) (l:List Int) (x y tx ty b:Int) (p:List Nat) (c k e:Int):Prop:=
 (eU W H l.length x y tx ty b≠0∧p=[]∧c=0∧k=0∧e=eU W H l.length x y tx ty b)∨
 (eU W H l.length x y tx ty b=0∧ ∃L:LandP W H l 0 0 W H,SrchN (aE L) W (aC W (x,y)) (aC W (tx,ty)) b p c k e)
theorem SrchN.one {G:Net} {W:Int} (hW:1≤W) {s t:Nat} {b:Int} {p p':List Nat} {c c' k k' e e':Int} (h:SrchN G W s t b p c k e) (h':SrchN G W s t b p' c' k' e'):p=p'∧c=c'∧k=k'∧e=e':=by
 rcases h with⟨h1,h2,h3⟩|⟨h1,rfl,rfl,rfl,rfl⟩
 ·rcases h' with⟨_,_,k3⟩|⟨k1,_⟩
  ·exact h3.one hW k3
  exact absurd ⟨h1,h2⟩ k1
 rcases h' with⟨k1,k2,_⟩|⟨_,rfl,rfl,rfl,rfl⟩
 ·exact absurd ⟨k1,k2⟩ h1
 exact⟨rfl,rfl,rfl,rfl⟩
theorem Srch.one {W H:Int} {l:List Int} {x y tx ty b:Int} {p p':List Nat} {c c' k k' e e':Int} (h:Srch W H l x y tx ty b p c k e) (h':Srch W H l x y tx ty b p' c' k' e'):p=p'∧c=c'∧k=k'∧e=e':=by
 rcases h with⟨h1,rfl,rfl,rfl,rfl⟩|⟨h1,L,h2⟩
 ·rcases h' with⟨_,rfl,rfl,rfl,rfl⟩|⟨k1,_⟩
  ·exact⟨rfl,rfl,rfl,rfl⟩
  exact absurd k1 h1
 rcases h' with⟨k1,_⟩|⟨_,_,k2⟩
 ·exact absurd h1 k1
 exact h2.one L.wh.1 k2
structure aMr (G:Net) (W:Int) (t:Nat):Prop where
 few:G.n≤1000000
 guess:oO G (hT W t)
 adj: ∀v m,m∈G.adj v→G.op m=true
theorem SrchN.ends {G:Net} {W:Int} {s t:Nat} (N:aMr G W t) {b:Int} {p:List Nat} {c k e:Int} (h:SrchN G W s t b p c k e) {D:Nat→Int} (F:IsFar G s D):0≤k∧k≤G.n∧
  ((e=0∧G.op s=true∧aKh G D s t p c)∨(e=22∧p=[]∧c=0∧(¬(G.op s=true∧G.op t=true)∨(G.op s=true∧D t=aJ)))∨(e=23∧p=[]∧c=0∧k=b∧b<G.n)):=by
 rcases h with⟨h1,h2,h3⟩|⟨h1,rfl,rfl,rfl,rfl⟩
 ·have hc:=aLr h3
  obtain⟨a1,a2⟩:=aLs h3 (uG h1 F) F N.few N.guess N.adj (by
   show bS (fun _=>0) s 1 t≠2
   unfold bS
   split<;>simp)
  refine⟨hc,a1,?_⟩
  rcases a2 with⟨e0,a⟩|⟨e0,a,b1,b2⟩|⟨e0,b1,b2,b3,b4⟩
  ·exact .inl ⟨e0,h1,a⟩
  ·exact .inr (.inl ⟨e0,b1,b2, .inr ⟨h1,a⟩⟩)
  exact .inr (.inr ⟨e0,b1,b2,b3,b4⟩)
 exact⟨Int.le_refl _,by omega, .inr (.inl ⟨rfl,rfl,rfl, .inl h1⟩)⟩
end Go.Proofs.YtaellcgglldjaaaGreat

namespace Go.Proofs.YtaellcgglldjaaaGreat
open Go.RowKit
def aMo (W H:Int) (l:List Int) (x y tx ty b:Int) (base:Nat) (e:Ending) (w':World):Prop:=
 ∃(p:List Nat) (c k er:Int) (v:Value),Srch W H l x y tx ty b p c k er∧e= .returned (.tuple #[.agg #[v, .int .u64 c, .int .i64 k], .int .i64 er])∧Own cellE w' base 28 v (p.map (aG W))
theorem aHs {w:World} (W H:Int) (a:Option Addr) {l:List Int} (c:Nat) (x y tx ty b:Int) (hr:Row16 w a l) (hu:cV l):
  Calls Tryz.prog 25 #[.agg #[.int .i64 W, .int .i64 H, .slice a l.length c], .agg #[.int .i64 x, .int .i64 y], .agg #[.int .i64 tx, .int .i64 ty], .int .i64 b] w fun e w'=>Ext w w'∧aMo W H l x y tx ty b w.heap.size e w':=by
 by_cases he:eU W H l.length x y tx ty b=0
 ·refine(aHq c he hr hu).mono ?_
  rintro e w' ⟨hx,h1,h2⟩
  refine⟨hx,?_⟩
  by_cases ho:(aE (bK (dW he).1 hu)).op (aC W (x,y))=true∧(aE (bK (dW he).1 hu)).op (aC W (tx,ty))=true
  ·obtain⟨p,cc,k,er,v,a1,a2,a3⟩:=h1 ho
   exact⟨p,cc,k,er,v, .inr ⟨he,_, .inl ⟨ho.1,ho.2,a1⟩⟩,a2,a3⟩
  exact⟨[],0,0,22,_, .inr ⟨he,bK (dW he).1 hu, .inr ⟨ho,rfl,rfl,rfl,rfl⟩⟩,h2 ho,Own.nil _ _ _ _⟩
 refine(aHr W H a l.length c x y tx ty b he).mono ?_
 rintro e w' ⟨h1,hx⟩
 exact⟨hx,[],0,0,_,_, .inl ⟨he,rfl,rfl,rfl,rfl⟩,h1,Own.nil _ _ _ _⟩
end Go.Proofs.YtaellcgglldjaaaGreat

namespace Go.Proofs.YtaellcgglldjaaaGreat
open Go.RowKit
set_option maxRecDepth 100000 in
theorem rF (a b:Option Addr) (l m:List aB) (c d:Nat) (w:World) (hl:l.length≤1000000) (ha:RowC w a l) (hb:RowC w b m):
  Calls Tryz.prog 16 #[.slice a l.length c, .slice b m.length d] w fun e w'=>e= .returned (.bool (decide (l=m)))∧Ext w w':=by
 by_cases hlen:l.length=m.length
 ·have HA:=aA ha
  have HB:=aA hb
  have HLM:=aA hlen
  obtain⟨n,hn⟩: ∃n,l.length=n:=⟨_,rfl⟩
  have HN:=aA hn
  rw[←hlen,hn]
  rw[hn]at hl
  clear ha hb hlen hn
  go_enter Tryz.func16,Tryz.ntmps16
  go_wp2_with fail
  go_loopw [5] (fun i wr=> ∃k:Nat,k≤n∧i= .int .i64 k∧l.take k=m.take k∧Ext w wr) (fun i _=>n-(intOf i).toNat)
  case atStart=>exact⟨0,Nat.zero_le _,rfl,rfl,z_x⟩
  obtain⟨k,hk,rfl,htk,hx⟩:=hrel
  have HT:=aA htk
  have HX:=aA hx
  clear htk hx
  by_cases hlt:k<n
  ·have h1:k<l.length:=by rw[HN.out];exact hlt
   have h2:k<m.length:=by rw[←HLM.out];exact h1
   obtain⟨ba,oa,rfl,za,ca⟩:=HA.out (by omega)
   obtain⟨bb,ob,rfl,zb,cb⟩:=HB.out (by omega)
   have d0:=(HX.out.cell (p:=⟨ba,oa+k*2,none⟩) za).trans (ca k h1).1
   have d2:=(HX.out.cell (p:=⟨ba,oa+k*2+1,none⟩) za).trans (ca k h1).2
   have d1:=(HX.out.cell (p:=⟨bb,ob+k*2,none⟩) zb).trans (cb k h2).1
   have d3:=(HX.out.cell (p:=⟨bb,ob+k*2+1,none⟩) zb).trans (cb k h2).2
   have z0:ba<wr.heap.size:=Nat.lt_of_lt_of_le za HX.out.size
   have z1:bb<wr.heap.size:=Nat.lt_of_lt_of_le zb HX.out.size
   have jk:(k:Int)<(n:Int):=by omega
   have e1:l[k]? =some l[k]:=zG h1
   have e2:m[k]? =some m[k]:=zG h2
   obtain⟨x,hx⟩: ∃x,l[k]=x:=⟨_,rfl⟩
   obtain⟨y,hy⟩: ∃y,m[k]=y:=⟨_,rfl⟩
   rw[hx]at d0 d2 e1
   rw[hy]at d1 d3 e2
   have E1:=aA e1
   have E2:=aA e2
   clear h1 h2 ca cb hx hy e1 e2
   by_cases hxy:x=y
   ·have HN1:Hid (l.take (k+1)=m.take (k+1)):=aA (by rw[List.take_add_one,List.take_add_one,E1.out,E2.out,HT.out,hxy])
    have hq1: ∀w,(Op.equalIn 10000 28 (.agg #[.int .i64 x.1, .int .i64 x.2]) (.agg #[.int .i64 y.1, .int .i64 y.2])).run Tryz.prog w= .ok true w:=fun w=>by rw[bC x y w,bB];simp[hxy]
    have hx:=HX.out
    clear hxy
    go_wp2
    go_quiet (fail)
    go_wp2
    go_roundw
    case rel=>exact⟨k+1,hlt,by go_num,HN1.out,z_x⟩
    simp[intOf];omega
   have HF:Hid (decide (l=m)=false):=aA (by simp only[decide_eq_false_iff_not];intro e;rw[e,E2.out]at E1;exact hxy (Option.some.inj E1.out).symm)
   have hq1: ∀w,(Op.equalIn 10000 28 (.agg #[.int .i64 x.1, .int .i64 x.2]) (.agg #[.int .i64 y.1, .int .i64 y.2])).run Tryz.prog w= .ok false w:=fun w=>by rw[bC x y w,bB];simp[hxy]
   clear hxy
   have hx:=HX.out
   go_wp2
   go_quiet (fail)
   go_wp2
   go_ret
   exact⟨by rw[HF.out]<;>rfl,z_x⟩
  obtain rfl:n=k:=by omega
  have HF:Hid (decide (l=m)=true):=aA (by
   have h:=HT.out
   rw[List.take_of_length_le (by rw[HN.out];exact Nat.le_refl _),List.take_of_length_le (by rw[←HLM.out,HN.out];exact Nat.le_refl _)]at h
   simpa using h)
  have hx:=HX.out
  go_wp2
  go_ret
  exact⟨by rw[HF.out]<;>rfl,z_x⟩
 have HF:Hid (decide (l=m)=false):=aA (by simp only[decide_eq_false_iff_not];intro e;exact hlen (by rw[e]))
 have hb0:((l.length:Int) !=(m.length:Int))=true:=by simp;omega
 obtain⟨n,hn⟩: ∃n,l.length=n:=⟨_,rfl⟩
 obtain⟨n2,hn2⟩: ∃n,m.length=n:=⟨_,rfl⟩
 have hb1:(n !=n2)=true:=by simp;omega
 rw[hn,hn2]at hb0⊢
 clear ha hb hlen hn hn2
 go_enter Tryz.func16,Tryz.ntmps16
 go_wp2
 go_ret
 exact⟨by rw[HF.out]<;>rfl,z_x⟩
theorem kS:LandP 4 2 aw15 0 0 4 2:=⟨by decide,by decide,aw15_good.u16,by decide⟩
theorem aIi: ∀v m,m∈(aE kS).adj v→m<(aE kS).n:=fun _ m h=>(aE kS).lt m (aFd kS h)
theorem aL0 (s:Nat) (hs:s<8): ∀u,(aY s).st u=1→u<8:=fun u hu=>by
 have:bS (fun _=>0) s 1 u=1:=hu
 unfold bS at this
 split at this
 ·omega
 cases this
theorem aFi:Srch 4 2 aw15 0 1 3 1 9 [4,5,6,7] 3 4 0:= .inr ⟨by decide,kS, .inl ⟨by decide+kernel,by decide+kernel,aDa (k:=20) aIi (aL0 4 (by omega)) (by decide+kernel)⟩⟩
theorem rW {w:World} {b:Nat} {l:List Int} (h:Blk w b 84 (l.map (Value.int .u16)).toArray):Row16 w (some ⟨b,0,none⟩) l:=fun _=>⟨b,0,rfl,h.lt,fun k hk=>by
 rw[Nat.zero_add,h.cell k]
 simp[hk]⟩
set_option maxRecDepth 100000 in
set_option maxHeartbeats 4000000 in
theorem kM (w:World):Calls Tryz.prog 10 #[] w fun e w'=>e= .returned (.bool true)∧Ext w w':=by
 go_enter Tryz.func10,Tryz.ntmps10
 go_wp2_with fail
 obtain⟨w1,hw1⟩: ∃z,z=(w.alloc (.cells #[.int .u16 1, .int .u16 1, .int .u16 1, .int .u16 1, .int .u16 1, .int .u16 1, .int .u16 1, .int .u16 1] 84)).alloc (.cells #[.int .i64 4, .int .i64 2, .slice (some ⟨w.heap.size,0,none⟩) 8 8] 26):=⟨_,rfl⟩
 have X1:=aA (show Ext w w1 by rw[hw1];exact z_x)
 have B0:=aA (show Blk w1 w.heap.size 84 (aw15.map (Value.int .u16)).toArray by rw[hw1];exact Blk.over (Blk.new_ rfl))
 have BF:=aA (show Blk w1 (w.heap.size+1) 26 #[.int .i64 4, .int .i64 2, .slice (some ⟨w.heap.size,0,none⟩) 8 8] by rw[hw1];exact Blk.new_ (by simp))
 obtain⟨f,hf⟩: ∃f,w.heap.size=f:=⟨_,rfl⟩
 rw[hf]at B0 BF hw1
 rw[hf]
 rw[←hw1]
 clear hw1 hf
 have HN:=aA (wL (w:=w1) 8 aw15_good (rW B0.out) (by rw[sW];decide))
 refine HN.out.mono ?_
 clear HN
 rintro e w2 ⟨p,R,rfl,hw,x2,_,_⟩
 have HW:=aA hw
 have B2:=aA (B0.out.ext x2)
 have BF2:=aA (BF.out.ext x2)
 have X2:=aA (X1.out.trans x2)
 have HFI:=aA (tL hw aw15_good nY (by rw[sW];decide) (0,1) (3,1) 9)
 obtain⟨pb,hpb⟩: ∃z,p.b=z:=⟨_,rfl⟩
 rw[hpb]at HFI⊢
 simp only at HFI
 clear hw x2 B0 BF X1 hpb
 go_wp2_with fail
 refine HFI.out.mono ?_
 rintro e w3 ⟨x3,pp,cc,kk,er,v,hs,rfl,ho⟩
 obtain⟨rfl,rfl,rfl,rfl⟩:=hs.one aFh
 have B3:=aA (B2.out.ext x3)
 have BF3:=aA (BF2.out.ext x3)
 have X3:=aA (X2.out.trans x3)
 have O3:=aA ho
 obtain⟨va,vc,rfl⟩:=ho.slice
 simp only[List.length_cons,List.length_nil,Nat.zero_add,Nat.reduceAdd]at O3⊢
 clear hs ho x3 HFI HW B2 BF2
 have y0:=BF3.out.at 0 rfl;have y1:=BF3.out.at 1 rfl;have y2:=BF3.out.at 2 rfl;have yz:=BF3.out.lt
 have HSF:=aA (fun(w':World) (x:Ext w3 w')=>aHs (w:=w') 4 2 (some ⟨f,0,none⟩) (l:=aw15) 8 0 1 3 1 9 ((rW B3.out).ext x) aw15_good.u16)
 rw[show aw15.length=8 from rfl]at HSF
 go_wp2_with fail
 refine(HSF.out _ ((Ext.refl _).alloc _)).mono ?_
 rintro e w5 ⟨x5,p5,c5,k5,e5,v5,hs5,rfl,ho5⟩
 obtain⟨rfl,rfl,rfl,rfl⟩:=hs5.one aFi
 obtain⟨v5a,v5c,rfl⟩:=ho5.slice
 have R5:=aA (show Blk w5 w3.heap.size 40 #[.slice va 6 vc, .int .u64 5, .int .i64 4] from(Blk.new_ rfl).ext x5)
 have X35:=aA (((Ext.refl w3).alloc _).trans x5)
 simp only[List.length_map,List.length_cons,List.length_nil,Nat.zero_add,Nat.reduceAdd]
 have O5:=aA (O3.out.ext X35.out)
 clear hs5 ho5 x5 y0 y1 y2 yz HSF B3 BF3 O3
 have r0:=R5.out.at 0 rfl;have r1:=R5.out.at 1 rfl;have r2:=R5.out.at 2 rfl;have rz:=R5.out.lt
 have HCE:=aA (fun(w':World) (x:Ext w5 w') (bv:Option Addr) (hb:RowC w' bv [(0,1),(1,1),(1,0),(2,0),(3,0),(3,1)])=>rF va bv [(0,1),(1,1),(1,0),(2,0),(3,0),(3,1)] [(0,1),(1,1),(1,0),(2,0),(3,0),(3,1)] vc 6 w' (by decide) (Reads.rowC (n:=6) (c:=vc) ((O5.out.ext x).reads)).2 hb)
 simp only[List.length_cons,List.length_nil,Nat.zero_add,Nat.reduceAdd,decide_true]at HCE
 go_wp2_with fail
 refine(HCE.out _ (((Ext.refl _).alloc _).alloc _) _ (Reads.rowC (n:=6) (c:=6) (aHi cellE _ #[.int .i64 0, .int .i64 1, .int .i64 1, .int .i64 1, .int .i64 1, .int .i64 0, .int .i64 2, .int .i64 0, .int .i64 3, .int .i64 0, .int .i64 3, .int .i64 1] 28 [(0,1),(1,1),(1,0),(2,0),(3,0),(3,1)] rfl _ _ _ (by simp) rfl)).2).mono ?_
 rintro e w7 ⟨rfl,x7⟩
 have S7:=aA (show Blk w7 w5.heap.size 40 #[.slice v5a 4 v5c, .int .u64 3, .int .i64 4] from((Blk.new_ rfl).over).ext x7)
 have X7:=aA ((X3.out.trans X35.out).trans ((((Ext.refl w5).alloc (.cells #[.slice v5a 4 v5c, .int .u64 3, .int .i64 4] 40)).alloc (.cells #[.int .i64 0, .int .i64 1, .int .i64 1, .int .i64 1, .int .i64 1, .int .i64 0, .int .i64 2, .int .i64 0, .int .i64 3, .int .i64 0, .int .i64 3, .int .i64 1] 28)).trans x7))
 clear x7 r0 r1 r2 rz
 have s0:=S7.out.at 0 rfl;have s1:=S7.out.at 1 rfl;have s2:=S7.out.at 2 rfl;have sz:=S7.out.lt
 go_wp2_with fail
 go_ret
 exact⟨rfl,X7.out⟩
end Go.Proofs.YtaellcgglldjaaaGreat

