/- Part of a proof: HierH HierZ HierEc HierEd. -/
import Derived.Test.YtaellcgglldjaaaGreatHierFindsQ30
import Derived.Test.YtaellcgglldjaaaGreatHierFindsQ31
import Derived.Test.YtaellcgglldjaaaGreatHierFindsQ21
import Derived.Test.YtaellcgglldjaaaGreatHierFindsQ22
import Derived.Test.YtaellcgglldjaaaGreatHierFindsQ29
import Derived.Test.YtaellcgglldjaaaGreatHierFindsQ03
set_option linter.all false
set_option linter.unusedVariables false
set_option linter.unusedSimpArgs false
namespace Go.Proofs.YtaellcgglldjaaaGreat
open Go.RowKit
set_option maxRecDepth 100000 in
set_option maxHeartbeats 1000000 in
theorem aHg {w:World} {q:gC} {R:Nat→Prop} {W H s:Int} {l:List Int} {NN:Nat} (h:RefS w q R W H s l NN) (a c:aB) (x:Int) (ha:inB W H a.1 a.2=true) (hc:inB W H c.1 c.2=true) (hne:ofN W s c.1 c.2=ofN W s a.1 a.2) (L:fE W H s (ofN W s a.1 a.2) l) (hd:cL L a (aC W c)<aJ) {p:List Nat} (hp:BackP (aE L) (cL L a) (aC W c) p):
  Calls Tryz.prog 45 #[.pointer (some ⟨q.b,0,none⟩),cD a c x] w fun e w'=> ∃v,e= .returned v∧Ext w w'∧Reads cellE w' v ((p.reverse.map (aG W)).drop 1):=by
 have g:=h.good
 obtain⟨hmay,hlw⟩:=checkE_ok.1 g.ok
 have hN:=h.num
 have hid:=iF g.right ha
 have hNb:(bF W H s).length=NN:=by have:=cQ g.right;omega
 obtain⟨ba,bc,hbv⟩:=h.boxes.slice
 obtain⟨ga,gc,hgv⟩:=h.gates.slice
 rw[hNb]at hbv
 have HBO:=aA (show Own aT w 0 71 (.slice ba NN bc) (bF W H s) by rw[←hbv];exact h.boxes)
 have HOF:=aA (fun(c:aB) (hc:inB W H c.1 c.2=true) (w':World) (x:Ext w w')=>(by
  have hcb:=inB_true.1 hc
  obtain⟨wb1,wb2,wb3,wb4⟩:=mayB_true.1 hmay
  have h1:=uT (.slice ba NN bc) (bF W H s) c.1 c.2 w' (by have:=g.cnt;omega) (by have:=g.cnt;omega) (HBO.out.reads.ext x) (jJ g.right) (by unfold InI;omega) (by unfold InI;omega)
  rw[yS g.right hc]at h1
  exact h1:Calls Tryz.prog 57 #[.slice ba NN bc, .agg #[.int .i64 c.1, .int .i64 c.2]] w' fun e w''=>e= .returned (.int .i64 (ofN W s c.1 c.2))∧Ext w' w''))
 have B:=aA h.blk
 unfold gN at B
 rw[hbv,hgv]at B
 obtain⟨ax,ay⟩:=a
 obtain⟨cx,cy⟩:=c
 have HLK:eA W H l.length (aR W s (ofN W s ax ay)) (aO W s (ofN W s ax ay)) (aZ W s (ofN W s ax ay)) (bA W H s (ofN W s ax ay)) ax ay=0:=by
  refine lookE_ok.2 ⟨(g.box hid).may,(g.box hid).len,(g.box hid).fits,?_⟩
  rw[←iN g.right hid (ax,ay)]
  unfold fZ
  rw[ha]
  simp
 have hcb:=inB_true.1 hc
 have hix:=iW hlw hc
 simp only at L hp hd hne hcb HLK hid
 have HFR:=aA (fun(w':World) (x:Ext w w')=>sM (w:=w') q.c HLK (h.row.ext x) g.u16 (D:=cL L (ax,ay)) (eY L (ax,ay)))
 have HPA:=aA (fun(w':World) (x:Ext w w') (base gb cg:Nat) (fa:FarAt w' base gb cg (cL L (ax,ay)) l.length)=>(by
  have h1:=aHh q.c HLK (h.row.ext x) g.u16 (eY L (ax,ay)) (aCr (eY L (ax,ay))) fa hd hp
  rw[dQ (by omega) (by omega) (by omega),dR (by omega) (by omega) (by omega)]at h1
  exact h1:Calls Tryz.prog 92 #[.agg #[.int .i64 W, .int .i64 H, .slice q.a l.length q.c], .agg #[.int .i64 (aR W s (ofN W s ax ay)), .int .i64 (aO W s (ofN W s ax ay)), .int .i64 (aZ W s (ofN W s ax ay)), .int .i64 (bA W H s (ofN W s ax ay))], .slice (some ⟨gb,0,none⟩) l.length cg, .agg #[.int .i64 cx, .int .i64 cy]] w' fun e w''=> ∃v,e= .returned v∧Ext w' w''∧Own cellE w'' w'.heap.size 28 v (p.reverse.map (aG W))))
 have HOA:=aA (HOF.out (ax,ay) ha)
 have HOC:=aA (HOF.out (cx,cy) hc)
 have HBX:=aA (fW g.right (ofN W s ax ay).toNat (by omega))
 obtain⟨id,hidn⟩: ∃id:Nat,ofN W s ax ay=(id:Int):=⟨(ofN W s ax ay).toNat,by omega⟩
 have hidN:id<NN:=by omega
 have hpl:1≤(p.reverse.map (aG W)).length:=by obtain⟨r,rfl⟩:=hp.head;simp
 generalize p.reverse.map (aG W)=PP at *
 generalize cL L (ax,ay)=D at *
 simp only at HOA HOC
 rw[hne]at HOC
 rw[hidn]at HOA HOC HFR HPA HBX
 rw[Int.toNat_natCast]at HBX
 obtain⟨qb,hqb⟩: ∃z,q.b=z:=⟨_,rfl⟩
 obtain⟨qa,hqa⟩: ∃z,q.a=z:=⟨_,rfl⟩
 obtain⟨qc,hqc⟩: ∃z,q.c=z:=⟨_,rfl⟩
 obtain⟨n,hn0⟩: ∃z,l.length=z:=⟨_,rfl⟩
 rw[hqb,hqa,hqc,hn0]at B
 rw[hqa,hqc,hn0]at HFR HPA
 rw[hqb]
 rw[hn0]at hix
 have jid:(id:Int)<(NN:Int):=by omega
 clear h g hmay hlw hN hid hNb hbv hgv HLK hcb hd hp hqb hqa hqc hn0 HOF hidn ha hc hne L
 unfold cD
 simp only
 have d1:((id:Int)==(id:Int))=true:=by simp
 go_enter Tryz.func45,Tryz.ntmps45
 go_upto_region 1 with(fail)
 obtain⟨w1,hw1⟩: ∃z,z=w.alloc (.cells #[.int .i64 ax, .int .i64 ay, .int .i64 cx, .int .i64 cy, .int .u64 x] 67):=⟨_,rfl⟩
 have X1:=aA (show Ext w w1 by rw[hw1];exact(Ext.refl _).alloc _)
 have L1:=aA (show Blk w1 w.heap.size 67 #[.int .i64 ax, .int .i64 ay, .int .i64 cx, .int .i64 cy, .int .u64 x] by rw[hw1];exact Blk.new_ rfl)
 rw[←hw1]
 have B1:=aA (B.out.ext X1.out)
 clear hw1
 have c0:=L1.out.at 0 rfl;have c1:=L1.out.at 1 rfl;have c2:=L1.out.at 2 rfl;have c3:=L1.out.at 3 rfl;have c4:=L1.out.at 4 rfl;have cz:=L1.out.lt
 have b0:=B1.out.at 0 rfl;have b1:=B1.out.at 1 rfl;have b2:=B1.out.at 2 rfl;have b3:=B1.out.at 3 rfl;have b4:=B1.out.at 4 rfl;have b5:=B1.out.at 5 rfl;have bz:=B1.out.lt
 refine aS w1 [(0,true),(1,true),(2,true),(3,true),(4,true),(5,true),(6,false),(7,true)] (fun hK0=> ?_)
 iterate 6 (refine SeqH.fr1 ?_;try simp only[zz])
 (refine aP ?_;intro K hK;go_simp;refine(HOA.out _ (X1.out.trans z_x)).mono ?_;rintro e w3 ⟨rfl,x3⟩;go_wp2_with fail;refine hK.out _ _ (aI z_x) (fun hK0=> ?_);clear hK K;try simp only[zz])
 iterate 1 (refine SeqH.fr1 ?_;try simp only[zz])
 refine SeqH.done ?_
 have XE:=aA hK0.2
 clear hK0 x3 c0 c1 c2 c3 c4 cz b0 b1 b2 b3 b4 b5 bz
 have X3:=aA (X1.out.trans XE.out)
 have L3:=aA (L1.out.ext XE.out)
 have B3:=aA (B.out.ext X3.out)
 clear XE
 have c0:=L3.out.at 0 rfl;have c1:=L3.out.at 1 rfl;have c2:=L3.out.at 2 rfl;have c3:=L3.out.at 3 rfl;have c4:=L3.out.at 4 rfl;have cz:=L3.out.lt
 have b0:=B3.out.at 0 rfl;have b1:=B3.out.at 1 rfl;have b2:=B3.out.at 2 rfl;have b3:=B3.out.at 3 rfl;have b4:=B3.out.at 4 rfl;have b5:=B3.out.at 5 rfl;have bz:=B3.out.lt
 go_upto_region 2 with(fail)
 refine aS w3 [(0,true),(1,true),(2,true),(3,true),(4,true),(5,true),(7,true),(6,false),(8,true)] (fun hK0=> ?_)
 iterate 7 (refine SeqH.fr1 ?_;try simp only[zz])
 (refine aP ?_;intro K hK;go_simp;refine(HOC.out _ (X3.out.trans z_x)).mono ?_;rintro e w5 ⟨rfl,x5⟩;go_wp2_with fail;refine hK.out _ _ (aI z_x) (fun hK0=> ?_);clear hK K;try simp only[zz])
 iterate 1 (refine SeqH.fr1 ?_;try simp only[zz])
 refine SeqH.done ?_
 have XE:=aA hK0.2
 clear hK0 x5 c0 c1 c2 c3 c4 cz b0 b1 b2 b3 b4 b5 bz
 have X5:=aA (X3.out.trans XE.out)
 have L5:=aA (L3.out.ext XE.out)
 have B5:=aA (B.out.ext X5.out)
 have z5:=X5.out.size
 clear XE
 obtain⟨pb,hpe,hpb,p0,p1,p2,p3⟩:=lZ (HBO.out.ext X5.out) HBX.out
 subst hpe
 rw[show(bJ W H s (id:Int)).1.1=aR W s (id:Int) from rfl]at p0
 rw[show(bJ W H s (id:Int)).1.2=aO W s (id:Int) from rfl]at p1
 rw[show(bJ W H s (id:Int)).2.1=aZ W s (id:Int) from rfl]at p2
 rw[show(bJ W H s (id:Int)).2.2=bA W H s (id:Int) from rfl]at p3
 have c0:=L5.out.at 0 rfl;have c1:=L5.out.at 1 rfl;have c2:=L5.out.at 2 rfl;have c3:=L5.out.at 3 rfl;have c4:=L5.out.at 4 rfl;have cz:=L5.out.lt
 have b0:=B5.out.at 0 rfl;have b1:=B5.out.at 1 rfl;have b2:=B5.out.at 2 rfl;have b3:=B5.out.at 3 rfl;have b4:=B5.out.at 4 rfl;have b5:=B5.out.at 5 rfl;have bz:=B5.out.lt
 go_upto_region 4 with(fail)
 refine aS w5 [(0,true),(1,true),(2,true),(3,true),(4,true),(5,true),(6,true),(7,true),(8,true),(9,true),(10,true),(11,true),(12,true),(13,false),(14,true)] (fun hK0=> ?_)
 iterate 13 (refine SeqH.fr1 ?_;try simp only[zz])
 (refine aP ?_;intro K hK;go_simp;refine(HFR.out _ (X5.out.trans z_x)).mono ?_;rintro e w6 ⟨v4,rfl,x4,o4⟩;obtain⟨fg,fgc,rfl,hfg1,hfg2⟩:=o4.pos (by rw[cJ];omega);rw[cJ]at o4⊢;have O4:=aA o4;clear o4;go_wp2_with fail;refine hK.out _ _ (aI z_x) (fun hK0=> ?_);clear hK K;try simp only[zz])
 iterate 1 (refine SeqH.fr1 ?_;try simp only[zz])
 refine SeqH.done ?_
 have XE:=aA hK0.2
 clear hK0 x4 c0 c1 c2 c3 c4 cz b0 b1 b2 b3 b4 b5 bz p0 p1 p2 p3 hpb
 have X6:=aA (X5.out.trans XE.out)
 have L6:=aA (L5.out.ext XE.out)
 have B6:=aA (B.out.ext X6.out)
 have FA:=aA (show FarAt w6 w.heap.size fg fgc D n from O4.out.lower (base':=w.heap.size) (by(try simp only[World.size_drew]);omega))
 obtain⟨pb',hpe,hpb,p0,p1,p2,p3⟩:=lZ (HBO.out.ext X6.out) HBX.out
 cases hpe
 rw[show(bJ W H s (id:Int)).1.1=aR W s (id:Int) from rfl]at p0
 rw[show(bJ W H s (id:Int)).1.2=aO W s (id:Int) from rfl]at p1
 rw[show(bJ W H s (id:Int)).2.1=aZ W s (id:Int) from rfl]at p2
 rw[show(bJ W H s (id:Int)).2.2=bA W H s (id:Int) from rfl]at p3
 have c0:=L6.out.at 0 rfl;have c1:=L6.out.at 1 rfl;have c2:=L6.out.at 2 rfl;have c3:=L6.out.at 3 rfl;have c4:=L6.out.at 4 rfl;have cz:=L6.out.lt
 have b0:=B6.out.at 0 rfl;have b1:=B6.out.at 1 rfl;have b2:=B6.out.at 2 rfl;have b3:=B6.out.at 3 rfl;have b4:=B6.out.at 4 rfl;have b5:=B6.out.at 5 rfl;have bz:=B6.out.lt
 go_upto_region 5 with(fail)
 have hpI:(1:Int)≤(PP.length:Int):=by omega
 refine aS w6 [(0,true),(1,true),(2,true),(3,true),(4,true),(5,true),(6,true),(7,true),(8,true),(9,true),(10,true),(11,true),(12,true),(13,true),(14,false),(15,true),(16,true)] (fun hK0=> ?_)
 iterate 14 (refine SeqH.fr1 ?_;try simp only[zz])
 (refine aP ?_;intro K hK;go_simp;refine(HPA.out _ (X6.out.trans z_x) w.heap.size fg fgc (FA.out.ext z_x)).mono ?_;rintro e w7 ⟨v7,rfl,x7,o7⟩;obtain⟨g7,c7,rfl,hg71,hg72⟩:=o7.pos (by omega);have kc7:PP.length≤c7:=aD8 o7;have O7:=aA o7;clear o7;go_wp2_with fail;refine hK.out _ _ (aI z_x) (fun hK0=> ?_);clear hK K;try simp only[zz])
 iterate 2 (refine SeqH.fr1 ?_;try simp only[zz])
 refine SeqH.done ?_
 have XE7:=aA hK0.2
 clear hK0
 have RV:=aA (rS kc7 O7.out.reads)
 generalize (if c7=1 then some (⟨g7,0,none⟩:Addr) else some ⟨g7,2,none⟩)=pv at RV⊢
 obtain⟨pc,hpc⟩: ∃z,c7-1=z:=⟨_,rfl⟩
 obtain⟨pn,hpn⟩: ∃z,PP.length-1=z:=⟨_,rfl⟩
 rw[hpc,hpn]at RV⊢
 clear hpc hpn O7 kc7 hpl hpI
 go_wp2_with fail
 go_ret
 exact⟨_,rfl,X6.out.trans XE7.out,by first|exact RV.out|(rw[←List.drop_one];exact RV.out)⟩
end Go.Proofs.YtaellcgglldjaaaGreat

namespace Go.Proofs.YtaellcgglldjaaaGreat
open Go.RowKit
theorem wV {W H s:Int} {l:List Int} (g:Good W H s l) (hl:l.length≤150) {f t:aB} (hf:inB W H f.1 f.2=true):LInv (hGr g hl f t) (aC W f) (aY (aC W f)):=by
 have hfn:f∈aN W H (aD W H s l) f t:=by
  have:=inB_true.1 hf
  exact nodesL_mem.2 ⟨by omega, .inl rfl⟩
 exact tO ((kG g).2 ⟨_,hfn,rfl⟩)
theorem vW {W H s:Int} {l:List Int} (g:Good W H s l) (hl:l.length≤150):(aD W H s l).length≤45000:=by
 have h1:cnt W H s≤W*H:=by
  obtain⟨r1,r2,r3,r4,r5,r6⟩:=rightB_true.1 g.right
  have b1:=bU W s r5 r6 r1 r2
  have b2:=bU H s r5 r6 r3 r4
  have hle: ∀L:Int,1≤L→acr L s≤L:=fun L hL=>by
   unfold acr
   apply Int.ediv_le_of_le_mul (by omega)
   have:=Int.mul_nonneg (show(0:Int)≤L-1 by omega) (show(0:Int)≤s-1 by omega)
   rw[Int.sub_mul,Int.mul_sub]at this
   omega
  unfold cnt
  exact Int.mul_le_mul (hle W r1) (hle H r3) (by omega) (by omega)
 have h2:=(checkE_ok.1 g.ok).2
 have h3:=g.cnt
 have h4:=aD6 (l:=l) g.right (n:=(cnt W H s).toNat) (by omega)
 unfold aD
 omega
theorem aDf {W H s:Int} {l:List Int} (g:Good W H s l) (hl:l.length≤150) {f t a:aB} (ha:inB W H a.1 a.2=true) {q:aB×Int} (h:q∈cB W H s l (aD W H s l) f t a):(cS W H s l a q.1).length≤150:=by
 obtain⟨h1,_,_,_,h5⟩:=kY g hl ha h
 rcases h5 with⟨e,_,hd⟩|⟨e,_⟩
 ·unfold cS
  rw[if_pos e]
  split
  ·next hx=>
   have hb:=Classical.choose_spec (Classical.choose_spec hx)
   obtain⟨L,hL⟩:=qV g ha
   rw[hL]at hd
   have F:=eY (Classical.choose hx) a
   have hlt:cL (Classical.choose hx) a (aC W q.1)<aJ:=by have:=F.le (aC W q.1);exact Std.lt_of_le_of_ne this hd
   have hfew:_≤l.length:=hb.few F hlt
   rw[List.length_drop,List.length_map,List.length_reverse]
   omega
  exact Nat.zero_le _
 rw[nI e,List.length_singleton];omega
theorem aHa {came:Nat→Int} {wR:Nat→Nat→List aB} {P:Nat→Prop} (hw: ∀v u:Nat,P v→came v=(u:Int)→(wR u v).length≤150∧P u) {v:Nat} {ch:List Nat} (C:Chain came v ch): ∀acc,P v→(fH wR acc ch).length≤acc.length+150*ch.length:=by
 induction C with
 |stop _=>intro acc _;simp[fH]
 |go hc C ih=>
  intro acc hP
  rename_i v u r
  obtain⟨h1,h2⟩:=hw v u hP hc
  have hr: ∃q,r=u::q:=by cases C<;>exact⟨_,rfl⟩
  obtain⟨q,rfl⟩:=hr
  have:=ih (wR u v++acc) h2
  rw[List.length_append]at this
  simp only[fH,List.length_cons]at this⊢
  omega
theorem aJk {W H s:Int} {l:List Int} (g:Good W H s l) (hl:l.length≤150) {f t:aB} (hf:inB W H f.1 f.2=true) {v:Nat} {b:Int} {A:AS} {p:List aB} {c k e:Int} (r:LRun (hGr g hl f t) W v b (eB W H s l f) A p c k e) (I:LInv (hGr g hl f t) (aC W f) A):p.length≤22501:=by
 induction r with
 |none _=>exact Nat.zero_le _
 |full _ _ _=>exact Nat.zero_le _
 |found hB hn0 hc=>
  rename_i A ch
  have h0:A.st v≠0:=by rw[hB.1];decide
  obtain⟨ch',c1,c2,c3⟩:=qF I (A.g v).toNat v (by have:=I.bd v h0;omega) h0
  obtain rfl:=hc.one c1
  have hll:ch.length≤l.length:=fR c3 (fun u hu=>(hGr g hl f t).lt u (I.op u (c2 u hu).1))
  have:=aHa (P:=fun v=>A.st v≠0) (wR:=fun u v=>cS W H s l (aG W u) (aG W v)) (fun v u hv hcm=>by
   have hs:v≠aC W f:=fun e=>by subst e;rw[I.sc]at hcm;omega
   obtain⟨u',x,u1,u2,u3,_⟩:=I.back v hv hs
   obtain rfl:u=u':=by omega
   refine⟨?_,by omega⟩
   have hu:=(qE g ((hGr g hl f t).lt u (I.op u (by omega)))).1
   obtain⟨q,hq,he⟩:=List.mem_map.1 u3
   have hin:=dJ g (kY g hl hu hq).1
   have e1:aC W q.1=v:=congrArg Prod.fst he
   rw[←e1,bV hin]
   exact aDf g hl hu hq) hc [] h0
  show(f::_).length≤_
  rw[List.length_cons]
  simp only[List.length_nil]at this
  omega
 |next hB _ _ _ ih=>exact ih (qG I hB.1)
theorem aM9 {W H s:Int} {l:List Int} {f t:aB} {b:Int} {p:List aB} {c k e:Int} (h:HSrch W H s l f t b p c k e):p.length≤22501:=by
 rcases h with⟨_,rfl,_⟩|⟨_,_,rfl,_⟩|⟨_,_,_,rfl,_⟩|⟨h1,_,_,g,hl,h4⟩
 ·exact Nat.zero_le _
 ·exact Nat.zero_le _
 ·exact Nat.zero_le _
 exact aJk g hl h1.1 h4 (wV g hl h1.1)
end Go.Proofs.YtaellcgglldjaaaGreat

namespace Go.Proofs.YtaellcgglldjaaaGreat
open Go.RowKit
theorem aEp {w:World} {q:gC} {R:Nat→Prop} {W H s:Int} {l:List Int} {NN:Nat} (h:RefS w q R W H s l NN) (a c:aB) (x:Int) (ha:inB W H a.1 a.2=true) (hc:inB W H c.1 c.2=true) (hd:ofN W s c.1 c.2=ofN W s a.1 a.2→cA W H s l a c≠aJ):
  Calls Tryz.prog 45 #[.pointer (some ⟨q.b,0,none⟩),cD a c x] w fun e w'=> ∃v,e= .returned v∧Ext w w'∧Reads cellE w' v (cS W H s l a c):=by
 by_cases e:ofN W s c.1 c.2=ofN W s a.1 a.2
 ·have hd:=hd e
  obtain⟨L,hL⟩:=qV h.good ha
  rw[hL]at hd
  have F:=eY L a
  have hle:=F.le (aC W c)
  have hnn:=F.nn (aC W c)
  have hlt:cL L a (aC W c)<aJ:=by omega
  obtain⟨p,hp⟩:=aCg F (cL L a (aC W c)).toNat _ (by omega) hlt
  rw[vC e L hp]
  exact aHg h a c x ha hc e L hlt hp
 rw[nI e]
 refine(aBx h a c x ha hc e).mono ?_
 rintro e w' ⟨v,rfl,hx,ho⟩
 exact⟨v,rfl,hx,ho.reads⟩
section
variable {W H s:Int} {l:List Int} {f t:aB} {A:AS} {cm:List nL}
theorem aH4 (g:Good W H s l):(aN W H (aD W H s l) f t).length≤l.length:=by
 have hn:((List.range (aN W H (aD W H s l) f t).length).map (nvN W (aN W H (aD W H s l) f t))).Nodup:=by
  rw[List.Nodup,List.pairwise_map]
  refine List.Pairwise.imp_of_mem ?_ (List.nodup_range (n:=(aN W H (aD W H s l) f t).length))
  intro i k hi hk hne e
  exact hne (aH5 g (List.mem_range.1 hi) (List.mem_range.1 hk) e)
 have:=fR hn (n:=l.length) (fun u hu=>by
  obtain⟨i,hi,rfl⟩:=List.mem_map.1 hu
  exact aMw g (List.mem_range.1 hi))
 rw[List.length_map,List.length_range]at this
 exact this
theorem aIn (g:Good W H s l) (hl:l.length≤150) (I:LInv (hGr g hl f t) (aC W f) A) (C:CameL W (aN W H (aD W H s l) f t) (nvN W (aN W H (aD W H s l) f t)) (aC W f) A cm) {i:Nat} {c:aB} (hi:(aN W H (aD W H s l) f t)[i]? =some c) (h0:A.st (aC W c)≠0) (hne:aC W c≠aC W f):
  ∃(j:Nat) (a:aB) (x:Int),(aN W H (aD W H s l) f t)[j]? =some a∧A.came (aC W c)=(aC W a:Nat)∧A.st (aC W a)≠0∧cm[i]? =some (a,c,x)∧inB W H a.1 a.2=true∧inB W H c.1 c.2=true∧(ofN W s c.1 c.2=ofN W s a.1 a.2→cA W H s l a c≠aJ)∧(cS W H s l a c).length≤150:=by
 have hv:=nB (W:=W) hi
 obtain⟨u,x,h1,h2⟩:=C i c hi (by rw[hv];exact h0) (by rw[hv];exact hne)
 rw[hv]at h1
 obtain⟨u',x',u1,u2,u3,_⟩:=I.back _ h0 hne
 obtain rfl:u=u':=by omega
 have huo:=I.op u (by omega)
 obtain⟨j,hj,hju⟩:=aEg g hl huo
 obtain⟨a,ha,ham,hai,hac,hae⟩:=qY (f:=f) (t:=t) g hj
 rw[hju]at hac hae
 obtain⟨q,hq,he⟩:=List.mem_map.1 u3
 rw[hac]at hq h2
 have hok:=kY g hl hai hq
 have hqi:=dJ g hok.1
 have hci:=dJ g (List.mem_of_getElem? hi)
 have e1:q.1=c:=oC hqi hci (congrArg Prod.fst he)
 refine⟨j,a,x,ha,by rw[←hae];exact h1,by rw[←hae];omega,h2,hai,hci,fun e=> ?_,?_⟩
 ·rcases hok.2.2.2.2 with⟨_,_,h⟩|⟨h,_⟩
  ·rw[←e1];exact h
  rw[e1]at h;exact absurd e h
 have:=aDf g hl hai hq
 rw[e1]at this
 exact this
end
end Go.Proofs.YtaellcgglldjaaaGreat

namespace Go.Proofs.YtaellcgglldjaaaGreat
open Go.RowKit
def qU:Option Nat→Int
 |none=> -1
 |some j=>(j:Int)
set_option maxRecDepth 100000 in
theorem aA3 {w:World} {q:gC} {R:Nat→Prop} {W H s:Int} {l:List Int} {NN:Nat} (h:RefS w q R W H s l NN) {fx fy tx ty b:Int} (hf:inB W H fx fy=true) (ht:inB W H tx ty=true) (hz:aL l W (fx,fy)=0∨aL l W (tx,ty)=0):
  Calls Tryz.prog 14 #[.pointer (some ⟨q.b,0,none⟩), .agg #[.int .i64 fx, .int .i64 fy], .agg #[.int .i64 tx, .int .i64 ty], .int .i64 b] w fun e w'=>e= .returned (.tuple #[.agg #[.slice none 0 0, .int .u64 0, .int .i64 0], .int .i64 22])∧Ext w w':=by
 have g:=h.good
 obtain⟨hmay,hlw⟩:=checkE_ok.1 g.ok
 have HCO:=aA (fun(w':World) (x:Ext w w') (u v:Int) (hi:inB W H u v=true)=>(by have:=inB_true.1 hi;exact fM W H q.a l q.c u v w' hmay hlw (h.row.ext x) g.u16 (by omega) (by omega) (by omega) (by omega)))
 have HC1:=aA (fun(w':World) (x:Ext w w')=>HCO.out w' x fx fy hf)
 have HC2:=aA (fun(w':World) (x:Ext w w')=>HCO.out w' x tx ty ht)
 have B0:=aA h.blk
 unfold gN at B0
 obtain⟨c1,hc1⟩: ∃z,aL l W (fx,fy)=z:=⟨_,rfl⟩
 obtain⟨c2,hc2⟩: ∃z,aL l W (tx,ty)=z:=⟨_,rfl⟩
 rw[hc1]at HC1 hz
 rw[hc2]at HC2 hz
 obtain⟨n,hn⟩: ∃z,l.length=z:=⟨_,rfl⟩
 rw[hn]at HC1 HC2 B0
 obtain⟨qa,qc,qb,qbv,qgv,qtg,qtc,e1,e2,e3,e4,e5,e6,e7⟩: ∃(qa:Option Addr) (qc qb:Nat) (qbv qgv:Value) (qtg qtc:Nat),q.a=qa∧q.c=qc∧q.b=qb∧q.bv=qbv∧q.gv=qgv∧q.tg=qtg∧q.tc=qtc:=⟨_,_,_,_,_,_,_,rfl,rfl,rfl,rfl,rfl,rfl,rfl⟩
 rw[e1,e2]at HC1 HC2
 rw[e1,e2,e3,e4,e5,e6,e7]at B0
 rw[e3]
 clear h g hmay hlw HCO hf ht hc1 hc2 hn e1 e2 e3 e4 e5 e6 e7
 go_enter Tryz.func14,Tryz.ntmps14
 go_upto_region 1 with(fail)
 obtain⟨w1,hw1⟩: ∃z,z=((w.alloc (.cells #[.int .i64 fx, .int .i64 fy] 28)).alloc (.cells #[.int .i64 tx, .int .i64 ty] 28)).alloc (.cells #[.slice none 0 0, .int .u64 0, .int .i64 0] 43):=⟨_,rfl⟩
 have X1:=aA (show Ext w w1 by rw[hw1];exact(((Ext.refl _).alloc _).alloc _).alloc _)
 have F1:=aA (show Blk w1 w.heap.size 28 #[.int .i64 fx, .int .i64 fy] by rw[hw1];exact(Blk.new_ rfl).over.over)
 have T1:=aA (show Blk w1 (w.heap.size+1) 28 #[.int .i64 tx, .int .i64 ty] by rw[hw1];exact(Blk.new_ (by simp)).over)
 have R1:=aA (show Blk w1 (w.heap.size+1+1) 43 #[.slice none 0 0, .int .u64 0, .int .i64 0] by rw[hw1];exact Blk.new_ (by simp))
 rw[←hw1]
 have B1:=aA (B0.out.ext X1.out)
 clear hw1 B0
 have b0:=B1.out.at 0 rfl;have b1:=B1.out.at 1 rfl;have b2:=B1.out.at 2 rfl;have b3:=B1.out.at 3 rfl;have b4:=B1.out.at 4 rfl;have b5:=B1.out.at 5 rfl;have b6:=B1.out.at 6 rfl;have bz:=B1.out.lt
 have f0:=F1.out.at 0 rfl;have f1:=F1.out.at 1 rfl;have fz:=F1.out.lt
 have t0:=T1.out.at 0 rfl;have t1:=T1.out.at 1 rfl;have tz:=T1.out.lt
 by_cases h1:c1=0
 ·subst h1
  clear hz
  refine aS w1 [(0,true),(1,true),(2,true),(3,true),(4,true),(5,false),(6,true),(7,true),(8,true),(9,true),(10,true),(11,true),(12,true),(13,true),(14,true),(15,true)] (fun hK0=> ?_)
  iterate 5 (refine SeqH.fr1 ?_;try simp only[zz])
  (refine aP ?_;intro K hK;go_simp;refine(HC1.out _ (X1.out.trans z_x)).mono ?_;rintro e w2 ⟨rfl,x2⟩;go_wp2_with fail;refine hK.out _ _ (aI z_x) (fun hK0=> ?_);clear hK K;try simp only[zz])
  iterate 10 (refine SeqH.fr1 ?_;try simp only[zz])
  refine SeqH.done ?_
  have X2:=aA hK0.2
  clear hK0 x2 b0 b1 b2 b3 b4 b5 b6 bz f0 f1 fz t0 t1 tz
  have R2:=aA (R1.out.ext X2.out)
  have r0:=R2.out.at 0 rfl;have r1:=R2.out.at 1 rfl;have r2:=R2.out.at 2 rfl;have rz:=R2.out.lt
  have f0:=R2.out.frozen 0
  have f1:=R2.out.frozen 1
  have f2:=R2.out.frozen 2
  have xw:=X1.out.trans X2.out
  go_wp2_with fail
  exact bodyPost_ret (v:= .tuple #[.agg #[.slice none 0 0, .int .u64 0, .int .i64 0], .int .i64 22]) (by simp[results,Tryz.results14,go_sem, *]) rfl ⟨rfl,z_x⟩
 have h2:c2=0:=hz.resolve_left h1
 subst h2
 have hq:(c1==0)=false:=by simpa using h1
 clear hz h1
 refine aS w1 [(0,true),(1,true),(2,true),(3,true),(4,true),(5,false),(6,true),(7,true),(8,true),(9,true),(10,true),(11,true),(12,true),(13,false),(14,true),(15,true)] (fun hK0=> ?_)
 iterate 5 (refine SeqH.fr1 ?_;try simp only[zz])
 (refine aP ?_;intro K hK;go_simp;refine(HC1.out _ (X1.out.trans z_x)).mono ?_;rintro e w2 ⟨rfl,x2⟩;go_wp2_with fail;refine hK.out _ _ (aI z_x) (fun hK0=> ?_);clear hK K;try simp only[zz])
 iterate 7 (refine SeqH.fr1 ?_;try simp only[zz])
 (refine aP ?_;intro K hK;go_simp;refine(HC2.out _ (X1.out.trans z_x)).mono ?_;rintro e w3 ⟨rfl,x3⟩;go_wp2_with fail;refine hK.out _ _ (aI z_x) (fun hK0=> ?_);clear hK K;try simp only[zz])
 iterate 2 (refine SeqH.fr1 ?_;try simp only[zz])
 refine SeqH.done ?_
 have X2:=aA hK0.2
 clear hK0 x2 x3 b0 b1 b2 b3 b4 b5 b6 bz f0 f1 fz t0 t1 tz
 have R2:=aA (R1.out.ext X2.out)
 have r0:=R2.out.at 0 rfl;have r1:=R2.out.at 1 rfl;have r2:=R2.out.at 2 rfl;have rz:=R2.out.lt
 have f0:=R2.out.frozen 0
 have f1:=R2.out.frozen 1
 have f2:=R2.out.frozen 2
 have xw:=X1.out.trans X2.out
 go_wp2_with fail
 exact bodyPost_ret (v:= .tuple #[.agg #[.slice none 0 0, .int .u64 0, .int .i64 0], .int .i64 22]) (by simp[results,Tryz.results14,go_sem, *]) rfl ⟨rfl,z_x⟩
end Go.Proofs.YtaellcgglldjaaaGreat

