/- Part of a proof: HierI FloodF FloodG. -/
import Derived.Test.YtaellcgglldjaaaGreatHierFindsQ30
import Derived.Test.YtaellcgglldjaaaGreatHierFindsQ22
import Derived.BigRegion
import Derived.Test.YtaellcgglldjaaaGreatHierFindsQ21
import Derived.Test.YtaellcgglldjaaaGreatHierFindsQ01
import Derived.Stop.RegionWithIn
import Derived.Shelf.Abstract
set_option linter.all false
set_option linter.unusedVariables false
set_option linter.unusedSimpArgs false
namespace Go.Proofs.YtaellcgglldjaaaGreat
open Go.RowKit
set_option maxRecDepth 100000 in
set_option maxHeartbeats 1000000 in
theorem aGk {w:World} {sb lb:Nat} {p:Spot} {R:Nat→Prop} {W H s:Int} {l:List Int} {fa:Option Addr} {fc:Nat} {ga:Option Addr} {gc:Nat} {f t:aB} (h:HLand w lb p R W H s l fa fc ga gc f t) (hsl:w.cell? ⟨sb,0,none⟩=some (.pointer (some ⟨lb,0,none⟩))) (hsb:sb<w.heap.size) (a c:aB) (x:Int) (ha:inB W H a.1 a.2=true) (hc:inB W H c.1 c.2=true) (hne:ofN W s a.1 a.2≠ofN W s c.1 c.2):
  Calls Tryz.prog 150 #[.pointer (some ⟨sb,0,none⟩),cD a c x] w fun e w'=> ∃v,e= .returned v∧Ext w w'∧Own cellE w' w.heap.size 28 v [a,c]:=by
 have hr:=h.good.right
 obtain⟨ax,ay⟩:=a
 obtain⟨cx,cy⟩:=c
 simp only at ha hc hne
 have HOA:=aA (fun(w':World)=>lC W H s ax ay w' hr ha)
 have HOC:=aA (fun(w':World)=>lC W H s cx cy w' hr hc)
 have B:=aA h.blk
 unfold eJ at B
 obtain⟨i1,hi1⟩: ∃z,ofN W s ax ay=z:=⟨_,rfl⟩
 obtain⟨i2,hi2⟩: ∃z,ofN W s cx cy=z:=⟨_,rfl⟩
 rw[hi1]at HOA hne
 rw[hi2]at HOC hne
 have HSL:=aA (fun(w':World) (x:Ext w w')=>(show w'.cell? ⟨sb,0,none⟩=some (.pointer (some ⟨lb,0,none⟩))∧sb<w'.heap.size from⟨(x.cell (p:=⟨sb,0,none⟩) hsb).trans hsl,Nat.lt_of_lt_of_le hsb x.size⟩))
 obtain⟨n,hn⟩: ∃z,l.length=z:=⟨_,rfl⟩
 obtain⟨m,hm⟩: ∃z,(aD W H s l).length=z:=⟨_,rfl⟩
 rw[hn,hm]at B
 clear h hr ha hc hi1 hi2 hsl hsb hn hm
 unfold cD
 simp only
 have d1:(i1==i2)=false:=by simpa using hne
 go_enter Tryz.func150,Tryz.ntmps150
 go_upto_region 1 with(fail)
 obtain⟨w1,hw1⟩: ∃z,z=w.alloc (.cells #[.int .i64 ax, .int .i64 ay, .int .i64 cx, .int .i64 cy, .int .u64 x] 56):=⟨_,rfl⟩
 have X1:=aA (show Ext w w1 by rw[hw1];exact(Ext.refl _).alloc _)
 have L1:=aA (show Blk w1 w.heap.size 56 #[.int .i64 ax, .int .i64 ay, .int .i64 cx, .int .i64 cy, .int .u64 x] by rw[hw1];exact Blk.new_ rfl)
 rw[←hw1]
 have B1:=aA (B.out.ext X1.out)
 clear hw1
 obtain⟨s0,sz⟩:=HSL.out w1 X1.out
 have c0:=L1.out.at 0 rfl;have c1:=L1.out.at 1 rfl;have c2:=L1.out.at 2 rfl;have c3:=L1.out.at 3 rfl;have c4:=L1.out.at 4 rfl;have cz:=L1.out.lt
 have b0:=B1.out.at 0 rfl;have b1:=B1.out.at 1 rfl;have b2:=B1.out.at 2 rfl;have b3:=B1.out.at 3 rfl;have b4:=B1.out.at 4 rfl;have b5:=B1.out.at 5 rfl;have b6:=B1.out.at 6 rfl;have b7:=B1.out.at 7 rfl;have b8:=B1.out.at 8 rfl;have b9:=B1.out.at 9 rfl;have b10:=B1.out.at 10 rfl;have b11:=B1.out.at 11 rfl;have bz:=B1.out.lt
 refine aS w1 [(0,true),(1,true),(2,true),(3,true),(4,true),(5,true),(6,true),(7,true),(8,true),(9,false),(10,true),(11,true),(12,true),(13,true),(14,true)] (fun hK0=> ?_)
 iterate 9 (refine SeqH.fr1 ?_;try simp only[zz])
 (refine aP ?_;intro K hK;go_simp;refine(HOA.out _).mono ?_;rintro e w3 ⟨rfl,x3⟩;go_wp2_with fail;refine hK.out _ _ (aI z_x) (fun hK0=> ?_);clear hK K;try simp only[zz])
 iterate 5 (refine SeqH.fr1 ?_;try simp only[zz])
 refine SeqH.done ?_
 have XE:=aA hK0.2
 clear hK0 x3 s0 sz c0 c1 c2 c3 c4 cz b0 b1 b2 b3 b4 b5 b6 b7 b8 b9 b10 b11 bz
 have X3:=aA (X1.out.trans XE.out)
 have L3:=aA (L1.out.ext XE.out)
 have B3:=aA (B.out.ext X3.out)
 clear XE
 obtain⟨s0,sz⟩:=HSL.out w3 X3.out
 have c0:=L3.out.at 0 rfl;have c1:=L3.out.at 1 rfl;have c2:=L3.out.at 2 rfl;have c3:=L3.out.at 3 rfl;have c4:=L3.out.at 4 rfl;have cz:=L3.out.lt
 have b0:=B3.out.at 0 rfl;have b1:=B3.out.at 1 rfl;have b2:=B3.out.at 2 rfl;have b3:=B3.out.at 3 rfl;have b4:=B3.out.at 4 rfl;have b5:=B3.out.at 5 rfl;have b6:=B3.out.at 6 rfl;have b7:=B3.out.at 7 rfl;have b8:=B3.out.at 8 rfl;have b9:=B3.out.at 9 rfl;have b10:=B3.out.at 10 rfl;have b11:=B3.out.at 11 rfl;have bz:=B3.out.lt
 go_upto_region 2 with(fail)
 refine aS w3 [(0,true),(1,true),(2,true),(3,true),(4,true),(5,true),(6,true),(7,true),(8,true),(9,false),(10,true),(11,true),(12,true),(13,true),(14,true)] (fun hK0=> ?_)
 iterate 9 (refine SeqH.fr1 ?_;try simp only[zz])
 (refine aP ?_;intro K hK;go_simp;refine(HOC.out _).mono ?_;rintro e w5 ⟨rfl,x5⟩;go_wp2_with fail;refine hK.out _ _ (aI z_x) (fun hK0=> ?_);clear hK K;try simp only[zz])
 iterate 5 (refine SeqH.fr1 ?_;try simp only[zz])
 refine SeqH.done ?_
 have XE:=aA hK0.2
 clear hK0 x5 s0 sz c0 c1 c2 c3 c4 cz b0 b1 b2 b3 b4 b5 b6 b7 b8 b9 b10 b11 bz
 have X5:=aA (X3.out.trans XE.out)
 have L5:=aA (L3.out.ext XE.out)
 have z5:=X5.out.size
 clear XE
 have c0:=L5.out.at 0 rfl;have c1:=L5.out.at 1 rfl;have c2:=L5.out.at 2 rfl;have c3:=L5.out.at 3 rfl;have c4:=L5.out.at 4 rfl;have cz:=L5.out.lt
 go_wp2
 go_ret
 exact⟨_,rfl,X5.out.trans ((Ext.refl _).alloc _),zV w5 _ _ (ax,ay) (cx,cy) rfl z5⟩
end Go.Proofs.YtaellcgglldjaaaGreat

namespace Go.Proofs.YtaellcgglldjaaaGreat
open Go.RowKit
set_option maxRecDepth 100000 in
theorem aBe {w:World} {W H:Int} {a:Option Addr} {n c:Nat} {bx byy bw bh:Int} {bl bf bq g cg base:Nat} {far:Nat→Int} (cx cy want:Int)
  (ls:LandB bl W H a n c bx byy bw bh w) (hm:bW W H=true) (hn:(n:Int)=W*H) (fb:w.cell? ⟨bf,0,none⟩=some (.slice (some ⟨g,0,none⟩) n cg)) (fq:w.cell? ⟨bq,0,none⟩=some (.int .u64 want)) (fa:FarAt w base g cg far n)
  (h1:0≤cx) (h2:cx<W) (h3:0≤cy) (h4:cy<H) (zl:bl<w.heap.size) (zf:bf<w.heap.size) (zq:bq<w.heap.size):
  Calls Tryz.prog 123 #[.agg #[.int .i64 cx, .int .i64 cy], .pointer (some ⟨bf,0,none⟩), .pointer (some ⟨bl,0,none⟩), .pointer (some ⟨bq,0,none⟩)] w fun e w'=>e= .returned (.bool (decide (far (aC W (cx,cy))=want)))∧Ext w w':=by
 have hW:=mayB_true.1 hm
 obtain⟨j,hj⟩: ∃j,aC W (cx,cy)=j:=⟨_,rfl⟩
 have hji:=bT (W:=W) h1 (by omega) h3
 have ib:=jO h1 h2 h3 h4
 have hjn:j<n:=by omega
 have HA:=aA (fun w'=>oA W H a n c bx byy bw bh cx cy w' hm h1 h2 h3 h4)
 rw[hj]at hji⊢
 rw[←hji]at HA
 have FJ:=(fa.cell hjn).1
 have zg:=fa.lt.2
 obtain⟨fj,hfj⟩: ∃fj,far j=fj:=⟨_,rfl⟩
 rw[hfj]at FJ⊢
 obtain⟨q0,q1,q2,q3,q4,q5,q6⟩:=ls
 have hji2:(j:Int)<(n:Int):=by omega
 clear hj hji ib hfj fa hm hn hW
 go_enter Tryz.func123,Tryz.ntmps123
 go_wp2_with fail
 obtain⟨w0,hw0⟩: ∃w0,w0=w.alloc (.cells #[.int .i64 cx, .int .i64 cy] 28):=⟨_,rfl⟩
 have hx0:Ext w w0:=by rw[hw0];exact z_x
 have z0:w.heap.size<w0.heap.size:=by rw[hw0];simp
 have p0:w0.cell? ⟨w.heap.size,0,none⟩=some (.int .i64 cx):=by rw[hw0];simp[go_sem]
 have p1:w0.cell? ⟨w.heap.size,1,none⟩=some (.int .i64 cy):=by rw[hw0];simp[go_sem]
 have r0:=(hx0.cell (p:=⟨bl,0,none⟩) zl).trans q0
 have r1:=(hx0.cell (p:=⟨bl,1,none⟩) zl).trans q1
 have r2:=(hx0.cell (p:=⟨bl,2,none⟩) zl).trans q2
 have r3:=(hx0.cell (p:=⟨bl,3,none⟩) zl).trans q3
 have r4:=(hx0.cell (p:=⟨bl,4,none⟩) zl).trans q4
 have r5:=(hx0.cell (p:=⟨bl,5,none⟩) zl).trans q5
 have r6:=(hx0.cell (p:=⟨bl,6,none⟩) zl).trans q6
 have s0:=(hx0.cell (p:=⟨bf,0,none⟩) zf).trans fb
 have s1:=(hx0.cell (p:=⟨bq,0,none⟩) zq).trans fq
 have s2:=(hx0.cell (p:=⟨g,j,none⟩) zg).trans FJ
 have y0:bl<w0.heap.size:=by omega
 have y1:bf<w0.heap.size:=by omega
 have y2:bq<w0.heap.size:=by omega
 have y3:g<w0.heap.size:=by omega
 rw[←hw0]
 clear hw0 q0 q1 q2 q3 q4 q5 q6 fb fq FJ zl zf zq zg
 refine wp_region_held_drew (S:=(fun W=>(∀b o,b<w0.heap.size→W.cell? ⟨b,o,none⟩=w0.cell? ⟨b,o,none⟩)∧Ext w0 W)) (by kernel_rfl) (by first|with_reducible exact bG _|exact aI z_x) (fun hK0=> ?_)
 (((refine bE 0 ?_;try simp only[zz]));((refine bE 1 ?_;try simp only[zz]));((refine bE 2 ?_;try simp only[zz]));((refine bE 6 ?_;try simp only[zz])))
 (refine wpAnyH_ready (rs:=[3]) (by kernel_rfl) (by simp) ?_;refine AllReadyH.cons (o:= ?g75_o) ?g75_hi (fun K hK=> ?_) AllReadyH.nil;(case g75_hi=>(simp only[z_0,z_1,z_2];rfl));go_simp;refine(HA.out _).mono ?_;rintro e w2 ⟨rfl,hb2⟩;go_wp2_with fail;refine hK.out _ _ (aI z_x) (fun hK0=> ?_);clear hK K;try simp only[zz])
 (((refine bE 4 ?_;try simp only[zz]));((refine bE 5 ?_;try simp only[zz]));((refine bE 7 ?_;try simp only[zz]));((refine bE 8 ?_;try simp only[zz])))
 refine wpAnyH_done (by kernel_rfl) ?_ _
 have hx:=hx0.trans hK0.2
 go_wp2_with fail
 go_ret
 exact⟨by congr 1,hx⟩
end Go.Proofs.YtaellcgglldjaaaGreat

namespace Go.Proofs.YtaellcgglldjaaaGreat
open Go.RowKit
theorem aEe {G:Net} {far:Nat→Int} {v u:Nat} {W:Int} {NB:List aB} (h:jR G far v=some u) (hadj:G.adj v=NB.map (aC W)):
  ∃k q,k<NB.length∧NB[k]? =some q∧aC W q=u∧(∀r,NB[k]? =some r→decide (far (aC W r)=far v-G.cost v)=true)∧ ∀j r,j<k→NB[j]? =some r→decide (far (aC W r)=far v-G.cost v)=false:=by
 unfold jR at h
 rw[hadj,List.find?_eq_some_iff_getElem]at h
 obtain⟨h1,k,hk,h2,h3⟩:=h
 have hk':k<NB.length:=by simpa using hk
 have e:NB[k]? =some NB[k]:=zG hk'
 refine⟨k,NB[k],hk',e,by simpa using h2,fun r hr=> ?_,fun j r hj hr=> ?_⟩
 ·rw[e]at hr
  cases hr
  simp only[List.getElem_map]at h2
  rw[h2]
  exact h1
 have hj':j<NB.length:=by omega
 have:=h3 j hj
 rw[zG hj']at hr
 cases hr
 simpa using this
set_option maxRecDepth 100000 in
set_option maxHeartbeats 1000000 in
theorem aBf {w:World} {W H:Int} {a:Option Addr} {l:List Int} {bx byy bw bh:Int} (L:LandAt w W H a l bx byy bw bh) {c g cg base bl bf bt s t:Nat} {far:Nat→Int} {p:List Nat} {R:Nat→Prop}
  (F:IsFar (aE L.plain) s far) (hf:far t<aJ) (B:BackP (aE L.plain) far t p) (ls:LandB bl W H a l.length c bx byy bw bh w) (fb:w.cell? ⟨bf,0,none⟩=some (.slice (some ⟨g,0,none⟩) l.length cg)) (fa:FarAt w base g cg far l.length)
  (t0:w.cell? ⟨bt,0,none⟩=some (.int .i64 (vx W t))) (t1:w.cell? ⟨bt,1,none⟩=some (.int .i64 (vy W t)))
  (zl:bl<w.heap.size) (zf:bf<w.heap.size) (zt:bt<w.heap.size) (Rl:R bl) (Rf:R bf) (Rg:R g) (Ra: ∀b off,a=some ⟨b,off,none⟩→R b) (hR: ∀k,R k→k<w.heap.size):
  qR Tryz.prog 121 #[.pointer (some ⟨bt,0,none⟩), .pointer (some ⟨bf,0,none⟩), .pointer (some ⟨bl,0,none⟩)] (fun q:aB=> #[.agg #[.int .i64 q.1, .int .i64 q.2]]) (p.map (aG W)) R w:=by
 intro lp J W0 hx hA hE hS hY hJ0
 have HA:=aA hA
 have HE:=aA hE
 have HS:=aA hS
 have HY:=aA hY
 have HJ0:=aA hJ0
 have LP:=aA L.plain
 have HL:=aA (L.ext hx)
 have LB:=aA (ls.ext hx zl)
 have FB:=aA ((hx.cell (p:=⟨bf,0,none⟩) zf).trans fb)
 have FA:=aA (fa.ext hx)
 have zx:=hx.size
 have zg:=fa.lt.2
 have y0:=(hx.cell (p:=⟨bt,0,none⟩) zt).trans t0
 have y1:=(hx.cell (p:=⟨bt,1,none⟩) zt).trans t1
 have HAt:=aA (fun(w':World) (x y:Int) (h:0≤x∧x<W∧0≤y∧y<H)=>oA W H a l.length c bx byy bw bh x y w' L.may h.1 h.2.1 h.2.2.1 h.2.2.2)
 have HBe:=aA (fun(w':World) (hx:LandAt w' W H a l bx byy bw bh)=>rI hx c)
 obtain⟨G,hG⟩: ∃G,aE L.plain=G:=⟨_,rfl⟩
 have HG:Hid (aE LP.out=G):=aA hG
 rw[hG]at F B
 obtain⟨n,hn⟩: ∃n,l.length=n:=⟨_,rfl⟩
 have HN:=aA hn
 have HGN:=aA (show G.n=n by rw[←hG];exact hn)
 have HF:=aA F
 have HB:=aA B
 have HT:=aA hf
 have HRs:=aA hR
 rw[hn]at LB FB FA HAt HBe
 have wh:=L.plain.wh
 rw[hn]at wh
 clear hA hE hS hY hJ0 L ls fb fa t0 t1 hG F B hf hn hx hR
 obtain⟨xt,hxt⟩: ∃x,vx W t=x:=⟨_,rfl⟩
 obtain⟨yt,hyt⟩: ∃y,vy W t=y:=⟨_,rfl⟩
 rw[hxt]at y0
 rw[hyt]at y1
 have HXT:=aA hxt
 have HYT:=aA hyt
 have zt0:bt<W0.heap.size:=by omega
 clear hxt hyt
 show Calls Tryz.prog 121 #[.func (.yield lp) #[] #[], .pointer (some ⟨bt,0,none⟩), .pointer (some ⟨bf,0,none⟩), .pointer (some ⟨bl,0,none⟩)] W0 _
 go_enter Tryz.func121,Tryz.ntmps121
 go_wp2
 obtain⟨w1,hw1⟩: ∃w1,w1=W0.alloc (.cells #[.int .i64 xt, .int .i64 yt] 28):=⟨_,rfl⟩
 have hx1:Ext W0 w1:=by rw[hw1];exact z_x
 have J1:=aA (show J (fun k=>False∨k=W0.heap.size) [] w1 by rw[hw1];exact HA.out _ _ _ _ HJ0.out)
 have q0:w1.cell? ⟨W0.heap.size,0,none⟩=some (.int .i64 (vx W t)):=by rw[hw1,HXT.out];simp[go_sem]
 have q1:w1.cell? ⟨W0.heap.size,1,none⟩=some (.int .i64 (vy W t)):=by rw[hw1,HYT.out];simp[go_sem]
 have q2:w1.frozen? ⟨W0.heap.size,0,none⟩=false:=by rw[hw1];simp[go_sem]
 have q3:w1.frozen? ⟨W0.heap.size,1,none⟩=false:=by rw[hw1];simp[go_sem]
 have QQ:=aA (show _∧_∧_∧_ from⟨q0,q1,q2,q3⟩)
 have HX1:=aA hx1
 have zw1:W0.heap.size<w1.heap.size:=by rw[hw1];simp
 rw[←hw1]
 clear hw1 hx1 y0 y1 q0 q1 q2 q3 HJ0
 obtain⟨r,hr⟩:=HB.out.head
 have HR0:=aA hr
 clear hr
 go_loopg [5] r.length (fun gk s5 wr=> ∃(T:Nat→Prop) (pre rest:List Nat) (v bc:Nat),s5= .pointer (some ⟨bc,0,none⟩)∧gk=rest.length∧p=pre++v::rest∧BackP G far v (v::rest)∧far v<aJ∧J T (pre.map (aG W)) wr∧T bc∧(∀k,T k→W0.heap.size≤k)∧bc<wr.heap.size∧(wr.cell? ⟨bc,0,none⟩=some (.int .i64 (vx W v))∧wr.cell? ⟨bc,1,none⟩=some (.int .i64 (vy W v))∧wr.frozen? ⟨bc,0,none⟩=false∧wr.frozen? ⟨bc,1,none⟩=false)∧Touch (fun k=> ¬R k) W0 wr)
 case atStart=>exact⟨fun k=>False∨k=W0.heap.size,[],r,t,W0.heap.size,rfl,rfl,HR0.out,by rw[←HR0.out];exact HB.out,HT.out,J1.out, .inr rfl,fun k hk=>by(have:=hk.resolve_left (fun x=>x));omega,zw1,QQ.out,Touch.of_ext HX1.out⟩
 obtain⟨T,pre,rest,v,bc,rfl,rfl,hp,hbp,hfv,hJ,hTb,hTW,zbc,⟨c0,c1,c2,c3⟩,ht⟩:=hrel
 have BP:=aA hbp
 have P:=aA hp
 have FV:=aA hfv
 have HJ:=aA hJ
 have TB:=aA hTb
 have TW:=aA hTW
 have TT:=aA ht
 have hop:=HF.out.open_ hfv
 have hvn:=G.lt v hop
 rw[HGN.out]at hvn
 have hvb:=LP.out.v_in (v:=v) (by rw[HN.out];exact hvn)
 have hvi:=bT (W:=W) (x:=vx W v) (y:=vy W v) hvb.1 (by omega) hvb.2.2.1
 rw[gE (W:=W) wh.1]at hvi
 have LBr:=aA (LB.out.touch ht (by omega) (fun h=>h Rl))
 have FBr:=aA ((ht.cell (p:=⟨bf,0,none⟩) (show bf<W0.heap.size by omega) (fun h=>h Rf)).trans FB.out)
 have FAr:=aA (FA.out.touch ht (fun h=>h Rg))
 have HATr:=aA (fun w'=>HAt.out w' (vx W v) (vy W v) hvb)
 rw[←hvi]at HATr
 obtain⟨X,hX⟩: ∃x,vx W v=x:=⟨_,rfl⟩
 obtain⟨Y,hY⟩: ∃y,vy W v=y:=⟨_,rfl⟩
 have HXV:=aA hX
 have HYV:=aA hY
 rw[hX]at c0 HATr hvb
 rw[hY]at c1 HATr hvb
 have hzr:=ht.size
 obtain⟨fv,hfe⟩: ∃x,far v=x:=⟨_,rfl⟩
 have HFE:=aA hfe
 have hfv0:=HF.out.nn v
 rw[hfe]at hfv0
 have FC:=(FAr.out.cell hvn).1
 rw[hfe]at FC
 have hvi2:(v:Int)<(n:Int):=by omega
 have zgr:g<wr.heap.size:=by omega
 have zlr:bl<wr.heap.size:=by omega
 have zfr:bf<wr.heap.size:=by omega
 have hpre:pre.map (aG W)++[(X,Y)]<+:p.map (aG W):=by
  rw[hp,List.map_append,List.map_cons]
  refine⟨rest.map (aG W),?_⟩
  rw[show aG W v=(X,Y) by unfold aG;rw[hX,hY]]
  simp
 obtain⟨fn,tmps,assign,body,hyy,hRR⟩:=HY.out T _ (X,Y) wr.drew (HE.out _ _ _ _ hJ (Ext.refl _).drew) hpre
 have HRR:=aA hRR
 obtain⟨l0,l1,l2,l3,l4,l5,l6⟩:=LBr.out
 have FBR:=FBr.out
 have hd1:decide (0<fv)= !decide (fv=0):=by
  by_cases e:fv=0
  ·subst e;rfl
  have:0<fv:=by omega
  simp[e,this]
 clear hp hbp hfv hJ hTb hTW ht hX hY hfe hvi hRR hop hpre
 go_wp2_with fail
 go_cut [20] from 9 to 20 (fun s20 wx=>s20= .bool (!decide (fv=0))∧J T (pre.map (aG W)++[(X,Y)]) wx∧Touch (fun k=> ¬T k∧ ¬R k) wr wx)
 case first=>
  refine(wpIn_wide (n:=4)).1 ?_
  gi_region_with (first
   |(refine HRR.out.mono ?_;rintro e w2 ⟨rfl,hJ2,ht2'⟩;have ht2:Touch (fun k=> ¬T k∧ ¬R k) wr w2:=((Touch.refl _ wr).drew).trans ht2';have HJ2:=aA hJ2;have HT2:=aA ht2;have l20:=(ht2.cell (p:=⟨bl,0,none⟩) zlr (fun h=>h.2 Rl)).trans l0;have l21:=(ht2.cell (p:=⟨bl,1,none⟩) zlr (fun h=>h.2 Rl)).trans l1;have l22:=(ht2.cell (p:=⟨bl,2,none⟩) zlr (fun h=>h.2 Rl)).trans l2;have l23:=(ht2.cell (p:=⟨bl,3,none⟩) zlr (fun h=>h.2 Rl)).trans l3;have l24:=(ht2.cell (p:=⟨bl,4,none⟩) zlr (fun h=>h.2 Rl)).trans l4;have l25:=(ht2.cell (p:=⟨bl,5,none⟩) zlr (fun h=>h.2 Rl)).trans l5;have l26:=(ht2.cell (p:=⟨bl,6,none⟩) zlr (fun h=>h.2 Rl)).trans l6;have f20:=(ht2.cell (p:=⟨bf,0,none⟩) zfr (fun h=>h.2 Rf)).trans FBR;have f21:=(ht2.cell (p:=⟨g,v,none⟩) zgr (fun h=>h.2 Rg)).trans FC;have c20:=(ht2.cell (p:=⟨bc,0,none⟩) zbc (fun h=>h.1 TB.out)).trans c0;have c21:=(ht2.cell (p:=⟨bc,1,none⟩) zbc (fun h=>h.1 TB.out)).trans c1;have hz2:=ht2.size;have zl2:bl<w2.heap.size:=(by omega);have zf2:bf<w2.heap.size:=(by omega);have zg2:g<w2.heap.size:=(by omega);have zb2:bc<w2.heap.size:=(by omega);clear hJ2 ht2 ht2')
   |(refine⟨trivial,?_⟩;gi_at_call 69;refine(callsIn_wide.2 (HATr.out _)).mono ?_;rintro e w3 ⟨rfl,hb3⟩;obtain⟨hc3,hf3⟩:=hb3.cells;have hz3:=hb3.size;(try simp only[zS]at hz3)))
  all_goals (go_wp2_with fail;go_meet;exact⟨rfl,HE.out _ _ _ _ HJ2.out hb3,HT2.out.trans (Touch.of_ext hb3)⟩)
 obtain⟨rfl,hJ2,hT2⟩:=hcut
 obtain⟨wd,rfl⟩: ∃wd,wd=wc:=⟨_,rfl⟩
 have J2:=aA hJ2
 have T2:=aA hT2
 have hzc:=hT2.size
 clear hJ2 hd1 hyy HRR HJ
 by_cases h0:fv=0
 ·have hr0:rest=[]:=by
   have:=BP.out
   cases this with
   |done _=>rfl
   |step h1 _ _=>have:=HFE.out;omega
  have hpp:p.map (aG W)=pre.map (aG W)++[(X,Y)]:=by
   rw[P.out,hr0,List.map_append,List.map_cons,show aG W v=(X,Y) by unfold aG;rw[HXV.out,HYV.out]]
   rfl
  have hd2:(!decide (fv=0))=false:=by simp[h0]
  rw[hd2]
  have HPP:=aA hpp
  clear hpp h0 hr0 hd2
  go_wp2_with fail
  go_end0
  exact⟨⟨_,rfl⟩,T,by rw[HPP.out];exact J2.out⟩
 have hd2:(!decide (fv=0))=true:=by simp[h0]
 rw[hd2]
 have hop:=HF.out.open_ FV.out
 have hpos:0<far v:=by have:=HFE.out;omega
 obtain⟨u,hu⟩:=qH HF.out FV.out hpos
 have hul:=iY HF.out FV.out hu
 have hus:=(qI hu).2
 have hun:=HF.out.nn u
 obtain⟨rest',hbu,hre⟩: ∃rest',BackP G far u (u::rest')∧rest=u::rest':=by
  have:=BP.out
  cases this with
  |done h=>omega
  | @step _ u2 l2 h1 h2 h3=>
   rw[hu]at h2
   cases h2
   obtain⟨r2,hr2⟩:=h3.head
   subst hr2
   exact⟨r2,h3,rfl⟩
 have hcb:=G.pos v hop
 have hct:=G.top v hop
 have tW:Touch (fun k=> ¬R k) W0 wd:=TT.out.trans (T2.out.mono (fun k _ h=>h.2))
 have hxl:=HL.out
 have rowd:=hxl.row.touch tW (fun b off e h=>h (Ra b off e))
 have hlc:LandAt wd W H a l bx byy bw bh:={hxl with row:=rowd}
 have HLC:=aA hlc
 obtain⟨ab,off,hae,zab,hcc⟩:=gJ rowd hxl.len hvb.1 hvb.2.1 hvb.2.2.1 hvb.2.2.2
 have hvi3:=bT (W:=W) hvb.1 (by omega) hvb.2.2.1
 have hidx:aC W (X,Y)=v:=by rw[←HXV.out,←HYV.out];exact gE wh.1 v
 rw[hidx]at hvi3
 rw[show(Y*W+X).toNat=v by omega,show aL l W (X,Y)=G.cost v by rw[mJ,hidx,←HG.out];rfl]at hcc
 obtain⟨cv,hcv⟩: ∃x,G.cost v=x:=⟨_,rfl⟩
 have HCV:=aA hcv
 rw[hcv]at hcc hcb hct hus
 have k9:IntKind.u64.wrap cv=cv:=by rw[IntKind.wrap_u64];omega
 have hfvi:fv<18446744073709551615:=by have:=FV.out;rw[HFE.out]at this;exact this
 have k8:IntKind.u64.wrap (fv-cv)=fv-cv:=by rw[IntKind.wrap_u64];(have:=HFE.out;omega)
 have e0:=(T2.out.cell (p:=⟨bl,0,none⟩) zlr (fun h=>h.2 Rl)).trans l0
 have e1:=(T2.out.cell (p:=⟨bl,1,none⟩) zlr (fun h=>h.2 Rl)).trans l1
 have e2:=(T2.out.cell (p:=⟨bl,2,none⟩) zlr (fun h=>h.2 Rl)).trans l2
 have e3:=(T2.out.cell (p:=⟨bl,3,none⟩) zlr (fun h=>h.2 Rl)).trans l3
 have e4:=(T2.out.cell (p:=⟨bl,4,none⟩) zlr (fun h=>h.2 Rl)).trans l4
 have e5:=(T2.out.cell (p:=⟨bl,5,none⟩) zlr (fun h=>h.2 Rl)).trans l5
 have e6:=(T2.out.cell (p:=⟨bl,6,none⟩) zlr (fun h=>h.2 Rl)).trans l6
 have e7:=(T2.out.cell (p:=⟨bf,0,none⟩) zfr (fun h=>h.2 Rf)).trans FBR
 have e8:=(T2.out.cell (p:=⟨g,v,none⟩) zgr (fun h=>h.2 Rg)).trans FC
 have e9:=(T2.out.cell (p:=⟨bc,0,none⟩) zbc (fun h=>h.1 TB.out)).trans c0
 have e10:=(T2.out.cell (p:=⟨bc,1,none⟩) zbc (fun h=>h.1 TB.out)).trans c1
 have e11:=(T2.out.frozen (p:=⟨bc,0,none⟩) zbc (fun h=>h.1 TB.out)).trans c2
 have e12:=(T2.out.frozen (p:=⟨bc,1,none⟩) zbc (fun h=>h.1 TB.out)).trans c3
 have FRZ:=aA (show _∧_ from⟨e11,e12⟩)
 have z1:bl<wd.heap.size:=by omega
 have z2:bf<wd.heap.size:=by omega
 have z3:g<wd.heap.size:=by omega
 have z4:bc<wd.heap.size:=by omega
 have TW2:=aA tW
 have HU:=aA hu
 have HUL:=aA hul
 have HUS:=aA hus
 have HBU:=aA hbu
 have HRE:=aA hre
 have HID:=aA hidx
 subst hae
 clear hu hul hus hbu hre hun hpos hop tW hxl rowd hlc hvi3 hidx hcv l0 l1 l2 l3 l4 l5 l6 FBR FC c0 c1 c2 c3 e11 e12 h0 hd2 LBr FBr FAr
 go_wp2_with fail
 go_cut [6] from 21 to 36 (fun s6 wx=> ∃bq:Nat,s6= .pointer (some ⟨bq,0,none⟩)∧wx.cell? ⟨bq,0,none⟩=some (.int .u64 (fv-cv))∧wd.heap.size≤bq∧bq<wx.heap.size∧Ext wd wx)
 case first=>
  go_region_held3 (fun W=>(∀b o,b<wd.heap.size→W.cell? ⟨b,o,none⟩=wd.cell? ⟨b,o,none⟩)∧Ext wd W) (first|with_reducible exact bG _|exact aI z_x)
   (first|(go_at_call 69;refine(HATr.out _).mono ?_;rintro e w3 ⟨rfl,hb3⟩;obtain⟨hc3,hf3⟩:=hb3.cells;have hz3:=hb3.size;(try simp only[zS]at hz3);(try have zA3:=Nat.lt_of_succ_le hz3);(try have zB3:=Nat.lt_of_succ_le (Nat.le_of_succ_le hz3));(try have zC3:wd.heap.size<w3.heap.size:=(by omega));(try have zD3:wd.heap.size+1<w3.heap.size:=(by omega));(try have zE3:w3.heap.size≠wd.heap.size:=(by omega));(try have zF3:wd.heap.size≠w3.heap.size:=(by omega));(try have zG3:wd.heap.size<w3.heap.size+1:=(by omega))))
  all_goals (rename_i hS;have hSx:=aA hS.2;clear hS;go_wp2_with fail;go_meet;refine⟨_,rfl,?_,?_,?_,hSx.out⟩)
  all_goals (first|(simp[go_sem, *];done)|(simp;done)|(simp;omega)|omega)
 obtain⟨bq,rfl,hq,hbq1,hbq2,hxw⟩:=hcut
 have HX3:=aA hxw
 have z0:=hxw.size
 have s0:=(hxw.cell (p:=⟨bl,0,none⟩) z1).trans e0
 have s1:=(hxw.cell (p:=⟨bl,1,none⟩) z1).trans e1
 have s2:=(hxw.cell (p:=⟨bl,2,none⟩) z1).trans e2
 have s3:=(hxw.cell (p:=⟨bl,3,none⟩) z1).trans e3
 have s4:=(hxw.cell (p:=⟨bl,4,none⟩) z1).trans e4
 have s5:=(hxw.cell (p:=⟨bl,5,none⟩) z1).trans e5
 have s6:=(hxw.cell (p:=⟨bl,6,none⟩) z1).trans e6
 have s9:=(hxw.cell (p:=⟨bc,0,none⟩) z4).trans e9
 have s10:=(hxw.cell (p:=⟨bc,1,none⟩) z4).trans e10
 have E7:=aA e7
 have E9:=aA e9
 have E10:=aA e10
 have HQ:=aA hq
 clear hxw e0 e1 e2 e3 e4 e5 e6 e7 e8 e9 e10 hcc hq
 go_wp2_with fail
 refine(HBe.out _ ((HLC.out.ext HX3.out).ext z_x) X Y (by omega) (by omega) (by omega) (by omega)).mono ?_
 rintro e w4 ⟨v9,rfl,hx4,hv9⟩
 have hx34:Ext wd w4:=HX3.out.trans z_x
 have HX4:=aA hx34
 obtain⟨NB,hNB⟩: ∃NB,nbC (bD l W bx byy bw bh) X Y 4=NB:=⟨_,rfl⟩
 have hnb4:=oF (bD l W bx byy bw bh) X Y 4
 have hadj:G.adj v=NB.map (aC W):=by
  rw[←hNB,←HG.out,←HXV.out,←HYV.out]
  rfl
 obtain⟨k0,⟨qx,qy⟩,hk0,hqk,hqu,hyes,hno⟩:=aEe HU.out hadj
 have hin: ∀q,q∈NB→0≤q.1∧q.1<W∧0≤q.2∧q.2<H:=fun q hq=>by
  rw[←hNB]at hq
  obtain⟨d,_,ho,he⟩:=mem_nbC.1 hq
  rw[he]
  exact LP.out.in_ (eQ ho).1
 have hqin:=hin _ (List.mem_of_getElem? hqk)
 rw[hNB]at hv9 hnb4
 obtain⟨m,hm⟩: ∃m,NB.length=m:=⟨_,rfl⟩
 rw[hm]at hk0 hnb4
 obtain⟨sb,c9,rfl⟩: ∃sb c9,v9= .slice (some ⟨sb,0,none⟩) m c9:=by
  rcases hv9.2 with⟨_,hz⟩|⟨g',cap,cur,hv',_⟩
  ·omega
  exact⟨g',cap,by rw[hv',hm]⟩
 obtain⟨n0,n1,zsb⟩:=dZ hv9 hqk
 have hp2: ∀w',Ext w4 w'→ ∀q,q∈NB→Calls Tryz.prog 123 (#[.agg #[.int .i64 q.1, .int .i64 q.2]]++ #[.pointer (some ⟨bf,0,none⟩), .pointer (some ⟨bl,0,none⟩), .pointer (some ⟨bq,0,none⟩)]) w' fun e w2=>e= .returned (.bool (decide (far (aC W q)=far v-G.cost v)))∧Ext w' w2:=fun w' hw q hq=>by
  have hi:=hin q hq
  have hx5:=hx34.trans hw
  have tx:Touch (fun k=> ¬R k) W0 w':=TW2.out.trans (Touch.of_ext hx5)
  have hs4:=hx34.size
  have hsw:=hw.size
  have hsx:=(show Ext wc w4 from z_x).size
  refine aBe q.1 q.2 _ (LB.out.touch tx (by omega) (fun h=>h Rl)) LP.out.may (by rw[←HN.out];exact LP.out.len) ?_ ?_ (FA.out.touch tx (fun h=>h Rg)) hi.1 hi.2.1 hi.2.2.1 hi.2.2.2 (by omega) (by omega) (by omega)
  ·exact(hx5.cell (p:=⟨bf,0,none⟩) z2).trans E7.out
  rw[((show Ext wc w4 from z_x).trans hw).cell (p:=⟨bq,0,none⟩) hbq2,HFE.out,HCV.out]
  exact HQ.out
 have HI:=aA (rL hm (by omega) hv9 hp2 (enters_of Tryz.func123 (by kernel_rfl) rfl) hk0 hyes hno)
 have HK0:=aA hk0
 have HQN:=aA hqin
 have HQU:=aA hqu
 have hs4:=hx34.size
 have hk0i:(k0:Int)<(m:Int):=by omega
 have N0:=aA n0
 have N1:=aA n1
 have zw4:wc.heap.size≤w4.heap.size:=(show Ext wc w4 from z_x).size
 clear hp2 hyes hno hin hadj hqk hqu hqin hm hv9 hNB hx34 n0 n1
 go_wp2_with fail
 refine HI.out.mono ?_
 rintro e w5 ⟨rfl,hx5⟩
 have n0:=(hx5.cell (p:=⟨sb,k0*2,none⟩) zsb).trans N0.out
 have n1:=(hx5.cell (p:=⟨sb,k0*2+1,none⟩) zsb).trans N1.out
 have hz5:=hx5.size
 have HX5:=aA (HX4.out.trans hx5)
 have b0:=((HX5.out.cells).2 bc 0 z4).trans FRZ.out.1
 have b1:=((HX5.out.cells).2 bc 1 z4).trans FRZ.out.2
 have t9:=(HX5.out.cell (p:=⟨bc,0,none⟩) z4).trans E9.out
 have t10:=(HX5.out.cell (p:=⟨bc,1,none⟩) z4).trans E10.out
 clear s9 s10 HI hx5
 go_wp2_with fail
 obtain⟨w6,hw6⟩: ∃w6,w6=(w5.setCell ⟨bc,0,none⟩ (.int .i64 qx)).setCell ⟨bc,1,none⟩ (.int .i64 qy):=⟨_,rfl⟩
 have j5:=HE.out _ _ _ _ J2.out HX5.out
 have j6:J T (pre.map (aG W)++[(X,Y)]) w6:=by
  rw[hw6]
  exact HS.out _ _ _ _ _ (HS.out _ _ _ ⟨bc,0,none⟩ _ j5 TB.out) TB.out
 have t6:Touch (fun k=>k=bc) w5 w6:=by
  rw[hw6]
  exact((Touch.refl (fun k=>k=bc) w5).setCell (p:=⟨bc,0,none⟩) (.inl rfl) _).setCell (p:=⟨bc,1,none⟩) (.inl rfl) _
 have z6:w6.heap.size=w5.heap.size:=by rw[hw6];simp
 have hWbc:=TW.out bc TB.out
 rw[←hw6,←z6]
 have hqb:=HQN.out
 have ux:vx W u=qx:=by rw[←HQU.out];exact dQ hqb.1 hqb.2.1 hqb.2.2.1
 have uy:vy W u=qy:=by rw[←HQU.out];exact dR hqb.1 hqb.2.1 hqb.2.2.1
 have hs5:=HX5.out.size
 have hsW:=TW2.out.size
 go_roundg rest'.length
 case measure=>rw[HRE.out];simp
 refine⟨fun k=>T k∨k=w6.heap.size,pre++[v],rest',u,w6.heap.size,rfl,rfl,by rw[P.out,HRE.out];simp,HBU.out,HUL.out.2.1,?_, .inr rfl,?_,by simp,?_,?_⟩
 ·rw[List.map_append,List.map_cons,List.map_nil,show aG W v=(X,Y) by unfold aG;rw[HXV.out,HYV.out]]
  exact HA.out _ _ _ _ j6
 ·intro k hk
  rcases hk with hk|hk
  ·exact TW.out k hk
  omega
 ·rw[ux,uy]
  exact⟨by simp[go_sem],by simp[go_sem],by simp[go_sem],by simp[go_sem]⟩
 refine Touch.alloc ((TW2.out.trans (Touch.of_ext HX5.out)).trans (t6.mono (fun k _ h hr=> ?_))) _
 have:=HRs.out k hr
 omega
end Go.Proofs.YtaellcgglldjaaaGreat

