/- Part of a proof: HierF. -/
import Derived.Test.YtaellcgglldjaaaGreatHierFindsQ17
import Derived.Test.YtaellcgglldjaaaGreatHierFindsQ27
set_option linter.all false
set_option linter.unusedVariables false
set_option linter.unusedSimpArgs false
namespace Go.Proofs.YtaellcgglldjaaaGreat
open Go.RowKit
abbrev nL:=aB×aB×Int
def legE:Enc nL:=⟨5,fun x=>[.int .i64 x.1.1, .int .i64 x.1.2, .int .i64 x.2.1.1, .int .i64 x.2.1.2, .int .u64 x.2.2],fun _=>rfl,fun _ u hu=>by simp at hu;rcases hu with rfl|rfl|rfl|rfl|rfl<;>rfl⟩
theorem T_legs15:cH Tryz.prog 65 67 (.agg #[.int .i64 0, .int .i64 0, .int .i64 0, .int .i64 0, .int .u64 0]) 5 40:=⟨Tryz.underlying65,by kernel_rfl,rfl,by decide⟩
def cT (a:aB) (L:List (aB×Int)):List nL:=L.map fun p=>(a,p.1,p.2)
theorem pZ (a:aB) (L M:List (aB×Int)):cT a (L++M)=cT a L++cT a M:=List.map_append
theorem qA (a:aB) (L:List (aB×Int)):(cT a L).length=L.length:=List.length_map _
noncomputable def aE9 (W H s:Int) (l:List Int) (a c:aB):Bool:=decide (ofN W s c.1 c.2=ofN W s a.1 a.2)&&(!(decide (c=a))&& !(decide (cA W H s l a c=aJ)))
theorem aBq {W H s:Int} {l:List Int} {N:List aB} {a c:aB} {k:Nat} (h:N[k]? =some c):bL W H s l (N.take (k+1)) a=bL W H s l (N.take k) a++if aE9 W H s l a c=true then[(c,cA W H s l a c)] else[]:=by
 unfold bL
 rw[List.take_add_one,h,List.filter_append,List.map_append]
 congr 1
 unfold aE9
 by_cases e:(decide (ofN W s c.1 c.2=ofN W s a.1 a.2)&&(!(decide (c=a))&& !(decide (cA W H s l a c=aJ))))=true
 ·rw[if_pos e];simp only[Option.toList_some,List.filter_cons,if_pos e];rfl
 rw[if_neg e];simp only[Option.toList_some,List.filter_cons,if_neg e];rfl
theorem tN (W H s:Int) (l:List Int) (N:List aB) (a:aB):(bL W H s l N a).length≤N.length:=by
 unfold bL
 rw[List.length_map]
 exact List.length_filter_le _ _
theorem aEa {W:Int} {l:List Int} {G:List (aB×aB)} {a:aB} {k:Nat} {g:aB×aB} (h:G[k]? =some g):bH W l (G.take (k+1)) a=bH W l (G.take k) a++gL W l a g:=by
 unfold bH
 rw[List.take_add_one,h,List.flatMap_append]
 simp
theorem aJg (W:Int) (l:List Int) (a:aB) (g:aB×aB):(gL W l a g).length≤1:=by
 unfold gL
 split
 ·simp
 split<;>simp
theorem aGt (W:Int) (l:List Int) (G:List (aB×aB)) (a:aB):(bH W l G a).length≤G.length:=by
 unfold bH
 induction G with
 |nil=>simp
 |cons g G ih=>rw[List.flatMap_cons,List.length_append,List.length_cons];have:=aJg W l a g;omega
set_option maxRecDepth 100000 in
set_option maxHeartbeats 2000000 in
theorem aBw {w:World} {q:gC} {R:Nat→Prop} {W H s:Int} {l:List Int} {NN:Nat} (h:RefS w q R W H s l NN) (f t a:aB) (ha:inB W H a.1 a.2=true) (hgl:(aD W H s l).length≤50000) {na:Option Addr} (nc:Nat) (hn:RowC w na (aN W H (aD W H s l) f t)) (hnl:(aN W H (aD W H s l) f t).length≤65536):
  Calls Tryz.prog 24 #[.pointer (some ⟨q.b,0,none⟩), .slice na (aN W H (aD W H s l) f t).length nc, .agg #[.int .i64 a.1, .int .i64 a.2]] w fun e w'=> ∃v,e= .returned v∧Ext w w'∧Own legE w' w.heap.size 67 v (cT a (cB W H s l (aD W H s l) f t a)):=by
 have g:=h.good
 obtain⟨hmay,hlw⟩:=checkE_ok.1 g.ok
 obtain⟨wb1,wb2,wb3,wb4⟩:=mayB_true.1 hmay
 have hll:=g.len
 have hid:=iF g.right ha
 have hN:=h.num
 have hNb:(bF W H s).length=NN:=by have:=cQ g.right;omega
 obtain⟨ba,bc,hbv⟩:=h.boxes.slice
 obtain⟨ga,gc,hgv⟩:=h.gates.slice
 rw[hNb]at hbv
 have HBO:=aA (show Own aT w 0 71 (.slice ba NN bc) (bF W H s) by rw[←hbv];exact h.boxes)
 have HGO:=aA (show Own aT w 0 132 (.slice ga (aD W H s l).length gc) (aD W H s l) by rw[←hgv];exact h.gates)
 have HOF:=aA (fun(c:aB) (hc:inB W H c.1 c.2=true) (w':World) (x:Ext w w')=>(by
  have hcb:=inB_true.1 hc
  have h1:=uT (.slice ba NN bc) (bF W H s) c.1 c.2 w' (by have:=g.cnt;omega) (by have:=g.cnt;omega) (HBO.out.reads.ext x) (jJ g.right) (by unfold InI;omega) (by unfold InI;omega)
  rw[yS g.right hc]at h1
  exact h1:Calls Tryz.prog 57 #[.slice ba NN bc, .agg #[.int .i64 c.1, .int .i64 c.2]] w' fun e w''=>e= .returned (.int .i64 (ofN W s c.1 c.2))∧Ext w' w''))
 have HLK:eA W H l.length (aR W s (ofN W s a.1 a.2)) (aO W s (ofN W s a.1 a.2)) (aZ W s (ofN W s a.1 a.2)) (bA W H s (ofN W s a.1 a.2)) a.1 a.2=0:=by
  refine lookE_ok.2 ⟨(g.box hid).may,(g.box hid).len,(g.box hid).fits,?_⟩
  rw[←iN g.right hid a]
  unfold fZ
  rw[ha]
  simp
 have HFR:=aA (fun(w':World) (x:Ext w w')=>sM (w:=w') q.c HLK (h.row.ext x) g.u16 (D:=cL (g.box hid) (a.1,a.2)) (eY (g.box hid) (a.1,a.2)))
 have HDS:=aA (fun(c:aB)=>(show cA W H s l a c=cL (g.box hid) (a.1,a.2) (aC W c) from by unfold cA;rw[dif_pos (g.box hid)]))
 have HCO:=aA (fun(w':World) (x:Ext w w') (c:aB) (hc:inB W H c.1 c.2=true)=>(by
  have hcb:=inB_true.1 hc
  exact fM W H q.a l q.c c.1 c.2 w' hmay hlw (h.row.ext x) g.u16 (by omega) (by omega) (by omega) (by omega):Calls Tryz.prog 20 #[.agg #[.int .i64 W, .int .i64 H, .slice q.a l.length q.c], .agg #[.int .i64 c.1, .int .i64 c.2]] w' fun e w''=>e= .returned (.int .u64 (aL l W c))∧Ext w' w''))
 have HGI:=aA (fun(k:Nat) (g1:aB×aB) (hg:(aD W H s l)[k]? =some g1)=>(by
  obtain⟨x,y,_,h2,_,_,h3,h4,h5,h6,_⟩:=oB g.right (List.mem_of_getElem? hg)
  refine⟨h3,h4,fun e=> ?_⟩
  rw[e]at h5
  omega:inB W H g1.1.1 g1.1.2=true∧inB W H g1.2.1 g1.2.2=true∧g1.1≠g1.2))
 have HNI:=aA (fun(c:aB) (hc:c∈aN W H (aD W H s l) f t)=>(by
  have h1:=(nodesL_mem.1 hc).1
  exact inB_true.2 (by omega):inB W H c.1 c.2=true))
 have HIX:=aA (fun(c:aB) (hc:inB W H c.1 c.2=true)=>iW hlw hc)
 have HBX:=aA (fW g.right (ofN W s a.1 a.2).toNat (by omega))
 have B:=aA h.blk
 unfold gN at B
 rw[hbv,hgv]at B
 have HNR:=aA hn
 have HW:=aA (show(1≤W∧W≤65536)∧1≤H∧H≤65536 by omega)
 obtain⟨D,hD⟩: ∃z,cL (g.box hid) (a.1,a.2)=z:=⟨_,rfl⟩
 rw[hD]at HFR HDS
 obtain⟨id,hidn⟩: ∃id:Nat,ofN W s a.1 a.2=(id:Int):=⟨(ofN W s a.1 a.2).toNat,by omega⟩
 have hidN:id<NN:=by omega
 rw[hidn,Int.toNat_natCast]at HBX
 rw[hidn]at HFR
 have HIDN:=aA hidn
 obtain⟨G,hG⟩: ∃z,aD W H s l=z:=⟨_,rfl⟩
 rw[hG]at HGO HGI HNI B HNR hgl hnl⊢
 obtain⟨N,hNN⟩: ∃z,aN W H G f t=z:=⟨_,rfl⟩
 have HLL:=aA (show cB W H s l G f t a=bL W H s l N a++bH W l G a by unfold cB;rw[hNN])
 rw[hNN]at HNI HNR hnl⊢
 obtain⟨qb,hqb⟩: ∃z,q.b=z:=⟨_,rfl⟩
 obtain⟨qa,hqa⟩: ∃z,q.a=z:=⟨_,rfl⟩
 obtain⟨qc,hqc⟩: ∃z,q.c=z:=⟨_,rfl⟩
 rw[hqb,hqa,hqc]at B
 rw[hqa,hqc]at HFR HCO
 rw[hqb]
 obtain⟨n,hn0⟩: ∃z,l.length=z:=⟨_,rfl⟩
 obtain⟨m,hm⟩: ∃z,G.length=z:=⟨_,rfl⟩
 obtain⟨k1,hk1⟩: ∃z,N.length=z:=⟨_,rfl⟩
 have LM:=aA hm
 have LK:=aA hk1
 rw[hn0,hm]at B
 rw[hn0]at HFR HCO HIX hll
 rw[hm]at HGO hgl
 rw[hk1]at hnl⊢
 have HAI:=aA ha
 obtain⟨ax,ay⟩:=a
 simp only at HFR HDS HIDN HAI
 clear h g hmay hlw wb1 wb2 wb3 wb4 hid hN hNb hbv hgv HLK hn hD hidn hG hNN hqb hqa hqc hm hk1 ha
 simp only
 go_enter Tryz.func24,Tryz.ntmps24
 go_upto_region 1 with(fail)
 obtain⟨w1,hw1⟩: ∃z,z=w.alloc (.cells #[.int .i64 ax, .int .i64 ay] 28):=⟨_,rfl⟩
 have X1:=aA (show Ext w w1 by rw[hw1];exact(Ext.refl _).alloc _)
 have A1:=aA (show Blk w1 w.heap.size 28 #[.int .i64 ax, .int .i64 ay] by rw[hw1];exact Blk.new_ rfl)
 rw[←hw1]
 obtain⟨ab,hab⟩: ∃z,w.heap.size=z:=⟨_,rfl⟩
 rw[hab]at A1⊢
 have zab:ab≤w.heap.size∧w.heap.size≤ab:=by omega
 clear hw1 hab
 go_upto_region 2 with(fail)
 obtain⟨w2,hw2⟩: ∃z,z=w1.alloc (.cells #[] 67):=⟨_,rfl⟩
 have x2:Ext w1 w2:=by rw[hw2];exact(Ext.refl _).alloc _
 have O2:=aA (show Own legE w2 w1.heap.size 67 (.slice (some ⟨w1.heap.size,0,none⟩) 0 0) [] by rw[hw2];exact Own.lit0 legE w1 _ _ _ rfl (Nat.le_refl _))
 have A2:=aA (A1.out.ext x2)
 have X2:=aA (X1.out.trans x2)
 have B2:=aA (B.out.ext X2.out)
 have X12:=aA x2
 rw[←hw2]
 clear hw2 x2
 have c0:=A2.out.at 0 rfl;have c1:=A2.out.at 1 rfl;have cz:=A2.out.lt
 have b0:=B2.out.at 0 rfl;have b1:=B2.out.at 1 rfl;have b2:=B2.out.at 2 rfl;have b3:=B2.out.at 3 rfl;have b4:=B2.out.at 4 rfl;have b5:=B2.out.at 5 rfl;have bz:=B2.out.lt
 refine aS w2 [(0,true),(1,true),(2,true),(3,true),(4,true),(5,false),(6,true)] (fun hK0=> ?_)
 iterate 5 (refine SeqH.fr1 ?_;try simp only[zz])
 (refine aP ?_;intro K hK;go_simp;refine(HOF.out (ax,ay) HAI.out _ (X2.out.trans z_x)).mono ?_;rintro e w3 ⟨rfl,x3⟩;rw[HIDN.out];go_wp2_with fail;refine hK.out _ _ (aI z_x) (fun hK0=> ?_);clear hK K;try simp only[zz])
 iterate 1 (refine SeqH.fr1 ?_;try simp only[zz])
 refine SeqH.done ?_
 have XE:=aA hK0.2
 have A3:=aA (A2.out.ext XE.out)
 have X3:=aA (X2.out.trans XE.out)
 have B3:=aA (B.out.ext X3.out)
 have O3:=aA (O2.out.ext XE.out)
 have X13:=aA (X12.out.trans XE.out)
 clear hK0 x3 c0 c1 cz b0 b1 b2 b3 b4 b5 bz XE
 obtain⟨pb,hpe,hpb,p0,p1,p2,p3⟩:=lZ (HBO.out.ext X3.out) HBX.out
 subst hpe
 rw[show(bJ W H s (id:Int)).1.1=aR W s (id:Int) from rfl]at p0
 rw[show(bJ W H s (id:Int)).1.2=aO W s (id:Int) from rfl]at p1
 rw[show(bJ W H s (id:Int)).2.1=aZ W s (id:Int) from rfl]at p2
 rw[show(bJ W H s (id:Int)).2.2=bA W H s (id:Int) from rfl]at p3
 have jid:(id:Int)<(NN:Int):=by omega
 have c0:=A3.out.at 0 rfl;have c1:=A3.out.at 1 rfl;have cz:=A3.out.lt
 have b0:=B3.out.at 0 rfl;have b1:=B3.out.at 1 rfl;have b2:=B3.out.at 2 rfl;have b3:=B3.out.at 3 rfl;have b4:=B3.out.at 4 rfl;have b5:=B3.out.at 5 rfl;have bz:=B3.out.lt
 go_upto_region 3 with(fail)
 refine aS w3 [(0,true),(1,true),(2,true),(3,true),(4,true),(5,true),(6,true),(7,true),(8,true),(9,true),(10,true),(11,true),(12,false),(13,true)] (fun hK0=> ?_)
 iterate 12 (refine SeqH.fr1 ?_;try simp only[zz])
 (refine aP ?_;intro K hK;go_simp;refine(HFR.out _ (X3.out.trans z_x)).mono ?_;rintro e w4 ⟨v4,rfl,x4,o4⟩;obtain⟨fg,fgc,rfl,hfg1,hfg2⟩:=o4.pos (by rw[cJ];have:=HIX.out (ax,ay) HAI.out;omega);rw[cJ]at o4⊢;have O4:=aA o4;clear o4;go_wp2_with fail;refine hK.out _ _ (aI z_x) (fun hK0=> ?_);clear hK K;try simp only[zz])
 iterate 1 (refine SeqH.fr1 ?_;try simp only[zz])
 refine SeqH.done ?_
 have XE:=aA hK0.2
 have X4:=aA (X3.out.trans XE.out)
 have X14:=aA (X13.out.trans XE.out)
 have O4b:=aA (O3.out.ext XE.out)
 have z3:=X13.out.size
 have FA:=aA (show FarAt w4 w1.heap.size fg fgc D n from O4.out.lower (base':=w1.heap.size) (by(try simp only[World.size_drew]);omega))
 clear hK0 x4 c0 c1 cz b0 b1 b2 b3 b4 b5 bz p0 p1 p2 p3 hpb XE O4 O3 X13 A3 B3 O2 A2 B2 X12 X2 X3
 go_wp2_with fail
 go_loopw [7,10] (fun ov iv wr=> ∃k:Nat,k≤k1∧iv= .int .i64 (k:Int)∧Own legE wr w1.heap.size 67 ov (cT (ax,ay) (bL W H s l (N.take k) (ax,ay)))∧FarAt wr w1.heap.size fg fgc D n∧Ext w1 wr) (fun _ iv _=>k1-(intOf iv).toNat)
 case atStart=>exact⟨0,Nat.zero_le _,rfl,by have h:=O4b.out;simpa [bL,cT] using h,FA.out,X14.out⟩
 obtain⟨k,hk,rfl,ho,hf,hx⟩:=hrel
 have OR:=aA ho
 have FR:=aA hf
 have XR:=aA hx
 have zr:=hx.size
 clear ho hf hx FA O4b X14 X4
 by_cases hlt:k<k1
 ·have hkl:k<N.length:=by rw[LK.out];exact hlt
  obtain⟨nb,no,rfl,hnb,hnc⟩:=HNR.out (by omega)
  obtain⟨q0,q1⟩:=hnc k hkl
  have XW:=aA (X1.out.trans XR.out)
  have d0:=(XW.out.cell (p:=⟨nb,no+k*2,none⟩) hnb).trans q0
  have d1:=(XW.out.cell (p:=⟨nb,no+k*2+1,none⟩) hnb).trans q1
  have zw:=XW.out.size
  have hnw:nb<wr.heap.size:=by omega
  have hin:=HNI.out N[k] (List.getElem_mem hkl)
  have HNX:=aA (aBq (W:=W) (H:=H) (s:=s) (l:=l) (a:=(ax,ay)) (zG hkl))
  have HLN:=aA (show(cT (ax,ay) (bL W H s l (N.take k) (ax,ay))).length≤65536 by
   rw[qA]
   have h1:=tN W H s l (N.take k) (ax,ay)
   rw[List.length_take]at h1
   omega)
  generalize N[k]=pc at *
  obtain⟨px,py⟩:=pc
  simp only at d0 d1 hin
  have hcb:=inB_true.1 hin
  have hix:=HIX.out (px,py) hin
  have hdi:=HDS.out (px,py)
  have hsi:((aC W (px,py):Nat):Int)=py*W+px:=bT (by omega) (by omega) (by omega)
  have m0:=cN (a:=py) (b:=W) (A:=65536) (B:=65536) (by omega) (by omega) (by omega) (by omega)
  have kk1:IntKind.i64.wrap (py*W)=py*W:=IntWalk.i64_in _ (by omega)
  have kk2:IntKind.i64.wrap (py*W+px)=((aC W (px,py):Nat):Int):=by rw[hsi];exact IntWalk.i64_in _ (by omega)
  have hfc:=(FR.out.cell hix).1
  have hfz:=FR.out.lt.2
  have jk:(k:Int)<(k1:Int):=by omega
  have HBD:Hid (aE9 W H s l (ax,ay) (px,py)=(decide (ofN W s px py=(id:Int))&&(!(decide ((px,py)=(ax,ay)))&& !(decide (D (aC W (px,py))=aJ))))):=aA (by unfold aE9;rw[hdi];simp only;rw[HIDN.out])
  rw[hdi]at HNX
  generalize aC W (px,py)=ix at *
  have jix:(ix:Int)<(n:Int):=by omega
  generalize D ix=xv at *
  clear hnc q0 q1 hkl hcb hsi m0 hdi
  obtain⟨oa,oc,hov⟩:=OR.out.slice
  subst hov
  obtain⟨L0,hL0⟩: ∃z,cT (ax,ay) (bL W H s l (N.take k) (ax,ay))=z:=⟨_,rfl⟩
  have HL0:=aA hL0
  rw[hL0]at OR HLN⊢
  obtain⟨y,hy⟩: ∃z,L0.length=z:=⟨_,rfl⟩
  have HY:=aA hy
  rw[hy]at OR HLN⊢
  clear hL0 hy
  go_upto_region 8 with(fail)
  obtain⟨wb,hwb⟩: ∃z,z=wr.alloc (.cells #[.int .i64 px, .int .i64 py] 28):=⟨_,rfl⟩
  have xb:Ext wr wb:=by rw[hwb];exact(Ext.refl _).alloc _
  have CB:=aA (show Blk wb wr.heap.size 28 #[.int .i64 px, .int .i64 py] by rw[hwb];exact Blk.new_ rfl)
  have XB:=aA (XR.out.trans xb)
  have BB:=aA (B.out.ext (X1.out.trans XB.out))
  have AB:=aA (A1.out.ext XB.out)
  have OB:=aA (OR.out.ext xb)
  have FB:=aA (FR.out.ext xb)
  have hfb:=(xb.cell (p:=⟨fg,ix,none⟩) hfz).trans hfc
  have hfbz:fg<wb.heap.size:=by have:=xb.size;omega
  rw[←hwb]
  clear hwb d0 d1 xb hfc hfz OR FR
  have c0:=CB.out.at 0 rfl;have c1:=CB.out.at 1 rfl;have cz:=CB.out.lt
  have b0:=BB.out.at 0 rfl;have b1:=BB.out.at 1 rfl;have b2:=BB.out.at 2 rfl;have b3:=BB.out.at 3 rfl;have b4:=BB.out.at 4 rfl;have b5:=BB.out.at 5 rfl;have bz:=BB.out.lt
  have a0:=AB.out.at 0 rfl;have a1:=AB.out.at 1 rfl;have az:=AB.out.lt
  refine aS wb [(0,true),(1,true),(2,true),(3,true),(4,true),(5,true),(6,true),(7,true),(8,true),(9,true),(10,true),(11,true),(12,true),(13,true),(14,true),(15,true)] (fun hK0=> ?_)
  iterate 16 (refine SeqH.fr1 ?_;try simp only[zz])
  refine SeqH.done ?_
  have XE:=aA hK0.2
  clear hK0 c0 c1 cz b0 b1 b2 b3 b4 b5 bz a0 a1 az
  go_upto_region 9 with(fail)
  obtain⟨we,hwe⟩: ∃z,z=wb.drew:=⟨_,rfl⟩
  rw[←hwe]at XE⊢
  have CE:=aA (CB.out.ext XE.out)
  have BE:=aA (BB.out.ext XE.out)
  have AE:=aA (AB.out.ext XE.out)
  have OE:=aA (OB.out.ext XE.out)
  have FE:=aA (FB.out.ext XE.out)
  have XF:=aA (XB.out.trans XE.out)
  clear hwe hfb hfbz CB BB AB OB FB XB XE
  have c0:=CE.out.at 0 rfl;have c1:=CE.out.at 1 rfl;have cz:=CE.out.lt
  have b0:=BE.out.at 0 rfl;have b1:=BE.out.at 1 rfl;have b2:=BE.out.at 2 rfl;have b3:=BE.out.at 3 rfl;have b4:=BE.out.at 4 rfl;have b5:=BE.out.at 5 rfl;have bz:=BE.out.lt
  have a0:=AE.out.at 0 rfl;have a1:=AE.out.at 1 rfl;have az:=AE.out.lt
  have hE:=fun(w:World)=>bC (px,py) (ax,ay) w
  simp only at hE
  rw[bB]at hE
  have zF:=XF.out.size
  by_cases e1:(px,py)=(ax,ay)
  ·have d1:decide ((px,py)=(ax,ay))=true:=by simpa using e1
   rw[d1]at hE HBD
   have HST:=aA (show bL W H s l (N.take (k+1)) (ax,ay)=bL W H s l (N.take k) (ax,ay) by rw[HNX.out,HBD.out];simp)
   clear d1 e1
   refine aS we [(0,true),(1,true),(2,true),(3,true),(4,true),(5,true),(6,true),(7,true),(8,true),(9,true),(10,true),(11,true),(12,true),(13,true),(14,true),(15,true),(16,true)] (fun hK0=> ?_)
   iterate 17 (refine SeqH.fr1 ?_;try simp only[zz])
   refine SeqH.done ?_
   have XG:=aA hK0.2
   clear hK0
   go_wp2_with fail
   go_roundw
   case rel=>exact⟨k+1,by omega,by go_num,by rw[HST.out,HL0.out];exact OE.out.ext XG.out,FE.out.ext XG.out,XF.out.trans XG.out⟩
   simp[intOf];omega
  have d1:decide ((px,py)=(ax,ay))=false:=by simpa using e1
  rw[d1]at hE HBD
  by_cases e2:ofN W s px py=(id:Int)
  ·have d2:decide (ofN W s px py=(id:Int))=true:=by simpa using e2
   rw[d2]at HBD
   by_cases e3:xv=aJ
   ·have d3:decide (xv=aJ)=true:=by simpa using e3
    rw[d3]at HBD
    have HST:=aA (show bL W H s l (N.take (k+1)) (ax,ay)=bL W H s l (N.take k) (ax,ay) by rw[HNX.out,HBD.out];simp)
    subst e3
    unfold aJ
    clear d1 e1 d2 d3
    refine aS we [(0,true),(1,true),(2,true),(3,true),(4,true),(5,true),(6,true),(7,true),(8,true),(10,true),(9,false),(11,true),(12,true),(13,true),(14,true),(15,true),(16,true)] (fun hK0=> ?_)
    iterate 10 (refine SeqH.fr1 ?_;try simp only[zz])
    (refine aP ?_;intro K hK;go_simp;refine(HOF.out (px,py) hin _ (X1.out.trans (XF.out.trans z_x))).mono ?_;rintro e w7 ⟨rfl,x7⟩;rw[e2];go_wp2_with fail;refine hK.out _ _ (aI z_x) (fun hK0=> ?_);clear hK K;try simp only[zz])
    iterate 6 (refine SeqH.fr1 ?_;try simp only[zz])
    refine SeqH.done ?_
    have XG:=aA hK0.2
    clear hK0
    go_wp2_with fail
    go_roundw
    case rel=>exact⟨k+1,by omega,by go_num,by rw[HST.out,HL0.out];exact OE.out.ext XG.out,FE.out.ext XG.out,XF.out.trans XG.out⟩
    simp[intOf];omega
   have d3:decide (xv=aJ)=false:=by simpa using e3
   rw[d3]at HBD
   have HST:=aA (show cT (ax,ay) (bL W H s l (N.take (k+1)) (ax,ay))=cT (ax,ay) (bL W H s l (N.take k) (ax,ay))++[((ax,ay),(px,py),xv)] by rw[HNX.out,HBD.out,pZ];rfl)
   have e3': ¬xv=18446744073709551615:=e3
   have d3':(xv==18446744073709551615)=false:=by simpa using e3'
   clear d1 e1 d2 d3 e3
   refine aS we [(0,true),(1,true),(2,true),(3,true),(4,true),(5,true),(6,true),(7,true),(8,true),(10,true),(9,false),(11,true),(12,true),(13,true),(14,true),(15,true),(16,true)] (fun hK0=> ?_)
   iterate 10 (refine SeqH.fr1 ?_;try simp only[zz])
   (refine aP ?_;intro K hK;go_simp;refine(HOF.out (px,py) hin _ (X1.out.trans (XF.out.trans z_x))).mono ?_;rintro e w7 ⟨rfl,x7⟩;rw[e2];go_wp2_with fail;refine hK.out _ _ (aI z_x) (fun hK0=> ?_);clear hK K;try simp only[zz])
   iterate 6 (refine SeqH.fr1 ?_;try simp only[zz])
   refine SeqH.done ?_
   have XG:=aA hK0.2
   have OG:=aA (OE.out.ext XG.out)
   have FG:=aA (FE.out.ext XG.out)
   have CG:=aA (CE.out.ext XG.out)
   have AG:=aA (AE.out.ext XG.out)
   have XH:=aA (XF.out.trans XG.out)
   have zG:=XH.out.size
   clear hK0 c0 c1 cz b0 b1 b2 b3 b4 b5 bz a0 a1 az
   have c0:=CG.out.at 0 rfl;have c1:=CG.out.at 1 rfl;have cz:=CG.out.lt
   have a0:=AG.out.at 0 rfl;have a1:=AG.out.at 1 rfl;have az:=AG.out.lt
   have hfo: ∀q,(Value.slice oa y oc).ownBlock=some q→q≠fg:=fun q hq e=>by
    have h1:=jT FG.out OG.out (by decide) (k:=fg) rfl
    rw[e]at hq
    exact h1 hq
   go_wp2_with (at_builtin;refine dD legE T_legs15 rfl _ _ rfl w1.heap.size _ _ L0 rfl OG.out ((ax,ay),(px,py),xv) _ _ rfl _ rfl rfl (by rw[HY.out];have h:=HLN.out;omega) (by rw[HY.out];have h:=HLN.out;omega) (by omega) ?_;intro g9 c9 w9 o9 t9 l9;have O9:=aA o9;have T9:=aA t9;clear o9 t9 l9)
   go_roundw
   case rel=>exact⟨k+1,by omega,by go_num,by rw[HST.out,HL0.out];exact O9.out,FG.out.touch T9.out (fun h=>hfo _ h rfl),XH.out.of_below (T9.out.to_below XH.out.size (fun q h=>(aF OG.out h).1)) (Nat.le_refl _)⟩
   simp[intOf];omega
  have d2:decide (ofN W s px py=(id:Int))=false:=by simpa using e2
  rw[d2]at HBD
  have HST:=aA (show bL W H s l (N.take (k+1)) (ax,ay)=bL W H s l (N.take k) (ax,ay) by rw[HNX.out,HBD.out];simp)
  have d4:(ofN W s px py==(id:Int))=false:=by simpa using e2
  clear d1 e1
  refine aS we [(0,true),(1,true),(2,true),(3,true),(4,true),(5,true),(6,true),(7,true),(8,true),(10,true),(9,false),(11,true),(12,true),(13,true),(14,true),(15,true),(16,true)] (fun hK0=> ?_)
  iterate 10 (refine SeqH.fr1 ?_;try simp only[zz])
  (refine aP ?_;intro K hK;go_simp;refine(HOF.out (px,py) hin _ (X1.out.trans (XF.out.trans z_x))).mono ?_;rintro e w7 ⟨rfl,x7⟩;go_wp2_with fail;refine hK.out _ _ (aI z_x) (fun hK0=> ?_);clear hK K;try simp only[zz])
  iterate 6 (refine SeqH.fr1 ?_;try simp only[zz])
  refine SeqH.done ?_
  have XG:=aA hK0.2
  clear hK0
  go_wp2_with fail
  go_roundw
  case rel=>exact⟨k+1,by omega,by go_num,by rw[HST.out,HL0.out];exact OE.out.ext XG.out,FE.out.ext XG.out,XF.out.trans XG.out⟩
  simp[intOf];omega
 have hkk:k=k1:=by omega
 subst hkk
 have HOV:=aA (show bL W H s l (N.take k) (ax,ay)=bL W H s l N (ax,ay) by rw[List.take_of_length_le (by rw[LK.out];exact Nat.le_refl _)])
 rw[HOV.out]at OR
 have HLI:=aA (show(bL W H s l N (ax,ay)).length≤65536 by have h:=tN W H s l N (ax,ay);rw[LK.out]at h;omega)
 obtain⟨I,hI⟩: ∃z,bL W H s l N (ax,ay)=z:=⟨_,rfl⟩
 rw[hI]at OR HLL HLI
 obtain⟨oa,oc,hov⟩:=OR.out.slice
 subst hov
 obtain⟨y0,hy0⟩: ∃z,(cT (ax,ay) I).length=z:=⟨_,rfl⟩
 rw[hy0]at OR⊢
 have OR0:=aA (show Own legE wr w1.heap.size 67 (.slice oa y0 oc) (cT (ax,ay) (I++bH W l (G.take 0) (ax,ay))) by have h:=OR.out;simpa [bH] using h)
 obtain⟨wB,hwB⟩: ∃z,z=wr:=⟨_,rfl⟩
 rw[←hwB]at OR0 XR⊢
 have zB:=XR.out.size
 have BX:=aA (B.out.ext (X1.out.trans XR.out))
 clear hwB hI HOV OR FR zr hy0
 have b0:=BX.out.at 0 rfl;have b1:=BX.out.at 1 rfl;have b2:=BX.out.at 2 rfl;have b3:=BX.out.at 3 rfl;have b4:=BX.out.at 4 rfl;have b5:=BX.out.at 5 rfl;have bz:=BX.out.lt
 go_wp2_with fail
 clear b0 b1 b2 b3 b4 b5 bz
 go_loopw [7,13] (fun ov jv wr=> ∃j:Nat,j≤m∧jv= .int .i64 (j:Int)∧Own legE wr w1.heap.size 67 ov (cT (ax,ay) (I++bH W l (G.take j) (ax,ay)))∧Ext w1 wr) (fun _ jv _=>m-(intOf jv).toNat)
 case atStart=>exact⟨0,Nat.zero_le _,rfl,OR0.out,XR.out⟩
 clear OR0 XR zB BX
 obtain⟨j,hj,rfl,ho,hx⟩:=hrel
 have OJ:=aA ho
 have XJ:=aA hx
 have zj:=hx.size
 clear ho hx
 have BJ:=aA (B.out.ext (X1.out.trans XJ.out))
 have AJ:=aA (A1.out.ext XJ.out)
 have b0:=BJ.out.at 0 rfl;have b1:=BJ.out.at 1 rfl;have b2:=BJ.out.at 2 rfl;have b3:=BJ.out.at 3 rfl;have b4:=BJ.out.at 4 rfl;have b5:=BJ.out.at 5 rfl;have bz:=BJ.out.lt
 by_cases hlt:j<m
 ·have hjm:j<G.length:=by rw[LM.out];exact hlt
  obtain⟨gg,hgg⟩: ∃z,G[j]? =some z:=⟨G[j],zG hjm⟩
  have HIG:=aA (HGI.out j gg hgg)
  have HNX:=aA (aEa (W:=W) (l:=l) (a:=(ax,ay)) hgg)
  have HLN:=aA (show(cT (ax,ay) (I++bH W l (G.take j) (ax,ay))).length≤200000 by
   rw[qA,List.length_append]
   have h1:=aGt W l (G.take j) (ax,ay)
   rw[List.length_take]at h1
   have h2:=HLI.out
   omega)
  obtain⟨gb,hgb1,hgb,g0,g1,g2,g3⟩:=nS HGO.out hgg
  subst hgb1
  obtain⟨⟨ux,uy⟩,vx,vy⟩:=gg
  simp only at g0 g1 g2 g3 HIG
  have XK:=aA (X1.out.trans XJ.out)
  have GC:=aA (show ∀w',Ext w w'→w'.cell? ⟨gb,j*4,none⟩=some (.int .i64 ux)∧w'.cell? ⟨gb,j*4+1,none⟩=some (.int .i64 uy)∧w'.cell? ⟨gb,j*4+2,none⟩=some (.int .i64 vx)∧w'.cell? ⟨gb,j*4+3,none⟩=some (.int .i64 vy) from fun w' x=>⟨(x.cell (p:=⟨gb,j*4,none⟩) hgb).trans g0,(x.cell (p:=⟨gb,j*4+1,none⟩) hgb).trans g1,(x.cell (p:=⟨gb,j*4+2,none⟩) hgb).trans g2,(x.cell (p:=⟨gb,j*4+3,none⟩) hgb).trans g3⟩)
  clear hgg g0 g1 g2 g3 hjm
  have jj:(j:Int)<(m:Int):=by omega
  obtain⟨oj,cj,hov⟩:=OJ.out.slice
  subst hov
  obtain⟨L1,hL1⟩: ∃z,cT (ax,ay) (I++bH W l (G.take j) (ax,ay))=z:=⟨_,rfl⟩
  have HL1:=aA hL1
  rw[hL1]at OJ HLN⊢
  obtain⟨y,hy⟩: ∃z,L1.length=z:=⟨_,rfl⟩
  have HY:=aA hy
  rw[hy]at OJ HLN⊢
  clear hL1 hy
  obtain⟨g0,g1,g2,g3⟩:=GC.out wr XK.out
  have a0:=AJ.out.at 0 rfl;have a1:=AJ.out.at 1 rfl;have az:=AJ.out.lt
  have zab1:ab<w1.heap.size:=A1.out.lt
  have zqb1:qb<w1.heap.size:=by have:=B.out.lt;have:=X1.out.size;omega
  have zgb1:gb<w1.heap.size:=by have:=X1.out.size;omega
  have hE1:=fun(w:World)=>bC (ux,uy) (ax,ay) w
  have hE2:=fun(w:World)=>bC (vx,vy) (ax,ay) w
  simp only at hE1 hE2
  rw[bB]at hE1 hE2
  have zgbr:gb<wr.heap.size:=by omega
  go_upto_region 14 with(fail)
  by_cases e1:(ux,uy)=(ax,ay)
  ·have d1:decide ((ux,uy)=(ax,ay))=true:=by simpa using e1
   rw[d1]at hE1
   have e2: ¬(vx,vy)=(ax,ay):=fun e=>HIG.out.2.2 (e1.trans e.symm)
   have d2:decide ((vx,vy)=(ax,ay))=false:=by simpa using e2
   rw[d2]at hE2
   have HST:=aA (show cT (ax,ay) (I++bH W l (G.take (j+1)) (ax,ay))=cT (ax,ay) (I++bH W l (G.take j) (ax,ay))++[((ax,ay),(vx,vy),aL l W (vx,vy))] by
    rw[HNX.out,←List.append_assoc,pZ]
    unfold gL
    rw[if_pos e1]
    rfl)
   have hin:inB W H vx vy=true:=HIG.out.2.1
   clear d1 d2 e1 e2
   refine aS wr [(0,true),(1,true),(2,true),(3,true),(4,true),(5,true),(6,true),(7,true),(8,true),(9,true)] (fun hK0=> ?_)
   iterate 10 (refine SeqH.fr1 ?_;try simp only[zz])
   refine SeqH.done ?_
   have XEa:=aA hK0.2
   clear hK0
   obtain⟨wj,hwa⟩: ∃z,z=wr.drew:=⟨_,rfl⟩
   rw[←hwa]at XEa⊢
   have XWa:=aA (XJ.out.trans XEa.out)
   have XVa:=aA (X1.out.trans XWa.out)
   have OEa:=aA (OJ.out.ext XEa.out)
   have BEa:=aA (B.out.ext XVa.out)
   have AEa:=aA (A1.out.ext XWa.out)
   have zwa:=XWa.out.size
   clear hwa b0 b1 b2 b3 b4 b5 bz a0 a1 az g0 g1 g2 g3
   have b0:=BEa.out.at 0 rfl;have b1:=BEa.out.at 1 rfl;have b2:=BEa.out.at 2 rfl;have b3:=BEa.out.at 3 rfl;have b4:=BEa.out.at 4 rfl;have b5:=BEa.out.at 5 rfl;have bz:=BEa.out.lt
   have a0:=AEa.out.at 0 rfl;have a1:=AEa.out.at 1 rfl;have az:=AEa.out.lt
   obtain⟨g0,g1,g2,g3⟩:=GC.out wj XVa.out
   have zgba:gb<wj.heap.size:=by omega
   have S0:Hid ((CellsAt [(⟨qb,0,none⟩, .int .i64 W),(⟨qb,1,none⟩, .int .i64 H),(⟨qb,2,none⟩, .slice qa n qc),(⟨qb,5,none⟩, .slice (some ⟨gb,0,none⟩) m gc),(⟨ab,0,none⟩, .int .i64 ax),(⟨ab,1,none⟩, .int .i64 ay),(⟨gb,j*4+2,none⟩, .int .i64 vx),(⟨gb,j*4+3,none⟩, .int .i64 vy)]) wj):=aA ⟨b0,b1,b2,b5,a0,a1,g2,g3,trivial⟩
   go_upto_region 15 with(fail)
   clear b0 b1 b2 b3 b4 b5 bz a0 a1 az g0 g1 g2 g3
   refine bM (S:=(CellsAt [(⟨qb,0,none⟩, .int .i64 W),(⟨qb,1,none⟩, .int .i64 H),(⟨qb,2,none⟩, .slice qa n qc),(⟨qb,5,none⟩, .slice (some ⟨gb,0,none⟩) m gc),(⟨ab,0,none⟩, .int .i64 ax),(⟨ab,1,none⟩, .int .i64 ay),(⟨gb,j*4+2,none⟩, .int .i64 vx),(⟨gb,j*4+3,none⟩, .int .i64 vy)])) [(0,true),(1,true),(2,true),(3,true),(4,true),(5,true),(6,true),(7,true),(8,true),(9,true),(10,true),(11,true),(12,true),(13,true),(14,true),(15,true),(16,true),(17,true),(18,true),(19,true),(20,true),(21,true),(22,false),(23,true),(24,false),(25,false),(26,true)] (by kernel_rfl) (by kernel_rfl) (by kernel_rfl) (by decide) (fun _ _ d _ _ h=>by cases d<;>exact h) (CellsAt.ext ((Ext.refl _).drew) S0.out) (fun hK0=> ?_)
   iterate 22 (refine SeqH.fr2 ?_;try simp only[zz])
   (refine aP ?_;intro K hK;go_simp;refine(HCO.out _ (XVa.out.trans z_x) (vx,vy) hin).mono ?_;rintro e w6 ⟨rfl,x6⟩;have X6:=aA (show Ext wj w6 from z_x);have O6:=aA (OEa.out.ext X6.out);have S6:=aA (CellsAt.ext X6.out S0.out);clear x6;go_wp2_with fail;refine hK.out _ _ (S6.out) (fun hK0=> ?_);clear hK K;try simp only[zz])
   iterate 1 (refine SeqH.fr2 ?_;try simp only[zz])
   (refine aP ?_;intro K hK;go_simp;refine hK.out _ _ (CellsAt.ext z_x S6.out) (fun hK0=> ?_);clear hK K;try simp only[zz])
   (refine aP ?_;intro K hK;refine fX legE T_legs15 (by rfl) _ _ (by rfl) w1.heap.size w6 (.slice oj y cj) L1 (by rfl) O6.out ((ax,ay),(vx,vy),aL l W (vx,vy)) _ _ (by rfl) _ (by rfl) (by rfl) (by rw[HY.out];have h:=HLN.out;omega) (by rw[HY.out];have h:=HLN.out;omega) (by have:=X6.out.size;omega) ?_;intro g9 c9 w9 o9 t9 l9;have S9:=aA (CellsAt.touch t9 (fun p hp h=>by have hl:=(aF O6.out h).1;simp only[List.mem_cons,List.not_mem_nil,or_false]at hp;rcases hp with rfl|rfl|rfl|rfl|rfl|rfl|rfl|rfl<;>simp only at hl<;>omega) S6.out);have O9:=aA o9;have T9:=aA t9;clear o9 t9 l9;refine hK.out _ _ (S9.out) (fun hK0=> ?_);clear hK K;try simp only[zz])
   iterate 1 (refine SeqH.fr2 ?_;try simp only[zz])
   refine SeqH.done ?_
   clear hK0 S0 S6 S9
   have X9:=aA ((XWa.out.trans X6.out).of_below (T9.out.to_below (by have:=X6.out.size;omega) (fun q h=>(aF O6.out h).1)) (Nat.le_refl _))
   have X9W:=aA (X1.out.trans X9.out)
   have B9:=aA (B.out.ext X9W.out)
   have A9:=aA (A1.out.ext X9.out)
   have b0:=B9.out.at 0 rfl;have b1:=B9.out.at 1 rfl;have b2:=B9.out.at 2 rfl;have b3:=B9.out.at 3 rfl;have b4:=B9.out.at 4 rfl;have b5:=B9.out.at 5 rfl;have bz:=B9.out.lt
   have a0:=A9.out.at 0 rfl;have a1:=A9.out.at 1 rfl;have az:=A9.out.lt
   obtain⟨g0,g1,g2,g3⟩:=GC.out w9 X9W.out
   have zgb9:gb<w9.heap.size:=by have:=X9.out.size;omega
   go_upto_region 16 with(fail)
   refine aS w9 [(0,true),(1,true),(2,true),(3,true),(4,true),(5,true),(6,true),(7,true),(8,true),(9,true)] (fun hK0=> ?_)
   iterate 10 (refine SeqH.fr1 ?_;try simp only[zz])
   refine SeqH.done ?_
   have XG:=aA hK0.2
   clear hK0
   go_wp2_with fail
   go_roundw
   case rel=>exact⟨j+1,by omega,by go_num,by rw[HST.out,HL1.out];exact O9.out.ext XG.out,X9.out.trans XG.out⟩
   simp[intOf];omega
  have d1:decide ((ux,uy)=(ax,ay))=false:=by simpa using e1
  rw[d1]at hE1
  clear d1
  refine aS wr [(0,true),(1,true),(2,true),(3,true),(4,true),(5,true),(6,true),(7,true),(8,true),(9,true)] (fun hK0=> ?_)
  iterate 10 (refine SeqH.fr1 ?_;try simp only[zz])
  refine SeqH.done ?_
  have XEa:=aA hK0.2
  clear hK0
  obtain⟨wj,hwa⟩: ∃z,z=wr.drew:=⟨_,rfl⟩
  rw[←hwa]at XEa⊢
  have XWa:=aA (XJ.out.trans XEa.out)
  have XVa:=aA (X1.out.trans XWa.out)
  have OEa:=aA (OJ.out.ext XEa.out)
  have BEa:=aA (B.out.ext XVa.out)
  have AEa:=aA (A1.out.ext XWa.out)
  have zwa:=XWa.out.size
  clear hwa b0 b1 b2 b3 b4 b5 bz a0 a1 az g0 g1 g2 g3
  have b0:=BEa.out.at 0 rfl;have b1:=BEa.out.at 1 rfl;have b2:=BEa.out.at 2 rfl;have b3:=BEa.out.at 3 rfl;have b4:=BEa.out.at 4 rfl;have b5:=BEa.out.at 5 rfl;have bz:=BEa.out.lt
  have a0:=AEa.out.at 0 rfl;have a1:=AEa.out.at 1 rfl;have az:=AEa.out.lt
  obtain⟨g0,g1,g2,g3⟩:=GC.out wj XVa.out
  have zgba:gb<wj.heap.size:=by omega
  go_upto_region 16 with(fail)
  by_cases e2:(vx,vy)=(ax,ay)
  ·have d2:decide ((vx,vy)=(ax,ay))=true:=by simpa using e2
   rw[d2]at hE2
   have HST:=aA (show cT (ax,ay) (I++bH W l (G.take (j+1)) (ax,ay))=cT (ax,ay) (I++bH W l (G.take j) (ax,ay))++[((ax,ay),(ux,uy),aL l W (ux,uy))] by
    rw[HNX.out,←List.append_assoc,pZ]
    unfold gL
    rw[if_neg e1,if_pos e2]
    rfl)
   have hin:inB W H ux uy=true:=HIG.out.1
   clear d2 e1 e2
   refine aS wj [(0,true),(1,true),(2,true),(3,true),(4,true),(5,true),(6,true),(7,true),(8,true),(9,true)] (fun hK0=> ?_)
   iterate 10 (refine SeqH.fr1 ?_;try simp only[zz])
   refine SeqH.done ?_
   have XEb:=aA hK0.2
   clear hK0
   obtain⟨wk,hwb⟩: ∃z,z=wj.drew:=⟨_,rfl⟩
   rw[←hwb]at XEb⊢
   have XWb:=aA (XWa.out.trans XEb.out)
   have XVb:=aA (X1.out.trans XWb.out)
   have OEb:=aA (OEa.out.ext XEb.out)
   have BEb:=aA (B.out.ext XVb.out)
   have AEb:=aA (A1.out.ext XWb.out)
   have zwb:=XWb.out.size
   clear hwb b0 b1 b2 b3 b4 b5 bz a0 a1 az g0 g1 g2 g3
   have b0:=BEb.out.at 0 rfl;have b1:=BEb.out.at 1 rfl;have b2:=BEb.out.at 2 rfl;have b3:=BEb.out.at 3 rfl;have b4:=BEb.out.at 4 rfl;have b5:=BEb.out.at 5 rfl;have bz:=BEb.out.lt
   have a0:=AEb.out.at 0 rfl;have a1:=AEb.out.at 1 rfl;have az:=AEb.out.lt
   obtain⟨g0,g1,g2,g3⟩:=GC.out wk XVb.out
   have zgbb:gb<wk.heap.size:=by omega
   have S0:Hid ((CellsAt [(⟨qb,0,none⟩, .int .i64 W),(⟨qb,1,none⟩, .int .i64 H),(⟨qb,2,none⟩, .slice qa n qc),(⟨qb,5,none⟩, .slice (some ⟨gb,0,none⟩) m gc),(⟨ab,0,none⟩, .int .i64 ax),(⟨ab,1,none⟩, .int .i64 ay),(⟨gb,j*4,none⟩, .int .i64 ux),(⟨gb,j*4+1,none⟩, .int .i64 uy)]) wk):=aA ⟨b0,b1,b2,b5,a0,a1,g0,g1,trivial⟩
   go_upto_region 17 with(fail)
   clear b0 b1 b2 b3 b4 b5 bz a0 a1 az g0 g1 g2 g3
   refine bM (S:=(CellsAt [(⟨qb,0,none⟩, .int .i64 W),(⟨qb,1,none⟩, .int .i64 H),(⟨qb,2,none⟩, .slice qa n qc),(⟨qb,5,none⟩, .slice (some ⟨gb,0,none⟩) m gc),(⟨ab,0,none⟩, .int .i64 ax),(⟨ab,1,none⟩, .int .i64 ay),(⟨gb,j*4,none⟩, .int .i64 ux),(⟨gb,j*4+1,none⟩, .int .i64 uy)])) [(0,true),(1,true),(2,true),(3,true),(4,true),(5,true),(6,true),(7,true),(8,true),(9,true),(10,true),(11,true),(12,true),(13,true),(14,true),(15,true),(16,true),(17,true),(18,true),(19,true),(20,true),(21,true),(22,false),(23,true),(24,false),(25,false),(26,true)] (by kernel_rfl) (by kernel_rfl) (by kernel_rfl) (by decide) (fun _ _ d _ _ h=>by cases d<;>exact h) (CellsAt.ext ((Ext.refl _).drew) S0.out) (fun hK0=> ?_)
   iterate 22 (refine SeqH.fr2 ?_;try simp only[zz])
   (refine aP ?_;intro K hK;go_simp;refine(HCO.out _ (XVb.out.trans z_x) (ux,uy) hin).mono ?_;rintro e w6 ⟨rfl,x6⟩;have X6:=aA (show Ext wk w6 from z_x);have O6:=aA (OEb.out.ext X6.out);have S6:=aA (CellsAt.ext X6.out S0.out);clear x6;go_wp2_with fail;refine hK.out _ _ (S6.out) (fun hK0=> ?_);clear hK K;try simp only[zz])
   iterate 1 (refine SeqH.fr2 ?_;try simp only[zz])
   (refine aP ?_;intro K hK;go_simp;refine hK.out _ _ (CellsAt.ext z_x S6.out) (fun hK0=> ?_);clear hK K;try simp only[zz])
   (refine aP ?_;intro K hK;refine fX legE T_legs15 (by rfl) _ _ (by rfl) w1.heap.size w6 (.slice oj y cj) L1 (by rfl) O6.out ((ax,ay),(ux,uy),aL l W (ux,uy)) _ _ (by rfl) _ (by rfl) (by rfl) (by rw[HY.out];have h:=HLN.out;omega) (by rw[HY.out];have h:=HLN.out;omega) (by have:=X6.out.size;omega) ?_;intro g9 c9 w9 o9 t9 l9;have S9:=aA (CellsAt.touch t9 (fun p hp h=>by have hl:=(aF O6.out h).1;simp only[List.mem_cons,List.not_mem_nil,or_false]at hp;rcases hp with rfl|rfl|rfl|rfl|rfl|rfl|rfl|rfl<;>simp only at hl<;>omega) S6.out);have O9:=aA o9;have T9:=aA t9;clear o9 t9 l9;refine hK.out _ _ (S9.out) (fun hK0=> ?_);clear hK K;try simp only[zz])
   iterate 1 (refine SeqH.fr2 ?_;try simp only[zz])
   refine SeqH.done ?_
   clear hK0 S0 S6 S9
   have X9:=aA ((XWb.out.trans X6.out).of_below (T9.out.to_below (by have:=X6.out.size;omega) (fun q h=>(aF O6.out h).1)) (Nat.le_refl _))
   go_wp2_with fail
   go_roundw
   case rel=>exact⟨j+1,by omega,by go_num,by rw[HST.out,HL1.out];exact O9.out,X9.out⟩
   simp[intOf];omega
  have d2:decide ((vx,vy)=(ax,ay))=false:=by simpa using e2
  rw[d2]at hE2
  have HST:=aA (show cT (ax,ay) (I++bH W l (G.take (j+1)) (ax,ay))=cT (ax,ay) (I++bH W l (G.take j) (ax,ay)) by
   rw[HNX.out]
   unfold gL
   rw[if_neg e1,if_neg e2,List.append_nil])
  clear d2 e1 e2
  refine aS wj [(0,true),(1,true),(2,true),(3,true),(4,true),(5,true),(6,true),(7,true),(8,true),(9,true)] (fun hK0=> ?_)
  iterate 10 (refine SeqH.fr1 ?_;try simp only[zz])
  refine SeqH.done ?_
  have XG:=aA hK0.2
  clear hK0
  go_wp2_with fail
  go_roundw
  case rel=>exact⟨j+1,by omega,by go_num,by rw[HST.out,HL1.out];exact OEa.out.ext XG.out,XWa.out.trans XG.out⟩
  simp[intOf];omega
 have hjm:j=m:=by omega
 subst hjm
 have HT:=aA (show bH W l (G.take j) (ax,ay)=bH W l G (ax,ay) by rw[List.take_of_length_le (by rw[LM.out];exact Nat.le_refl _)])
 rw[HT.out,←HLL.out]at OJ
 obtain⟨LL,hLL⟩: ∃z,cT (ax,ay) (cB W H s l G f t (ax,ay))=z:=⟨_,rfl⟩
 rw[hLL]at OJ
 have HFI:=aA hLL
 obtain⟨oj,cj,hov⟩:=OJ.out.slice
 subst hov
 clear hLL
 go_wp2
 go_ret
 exact⟨_,rfl,X1.out.trans XJ.out,by rw[HFI.out];exact OJ.out.lower X1.out.size⟩
end Go.Proofs.YtaellcgglldjaaaGreat

