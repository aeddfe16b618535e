/- Part of a proof: InO. -/
import Derived.Test.YtaellcgglldjaaaGreatHierFindsQ25
import Derived.Test.YtaellcgglldjaaaGreatHierFindsQ04
import Derived.Test.YtaellcgglldjaaaGreatHierFindsQ14
import Derived.Test.YtaellcgglldjaaaGreatHierFindsQ01
import Derived.Laws.AppendOwnNone
set_option linter.all false
set_option linter.unusedVariables false
set_option linter.unusedSimpArgs false
namespace Go.Proofs.YtaellcgglldjaaaGreat
open Go.RowKit
set_option maxRecDepth 100000 in
set_option maxHeartbeats 2000000 in
theorem aEn {w:World} {W H:Int} {a:Option Addr} {l:List Int} {bx byy bw bh:Int} (L:LandP W H l bx byy bw bh) (c:Nat) (p:aB) (he:eA W H l.length bx byy bw bh p.1 p.2=0) {ca:Option Addr} {cs:List aB} (cc:Nat) (hcs: ∀q,q∈cs→bO bx byy bw bh q.1 q.2=true) (hl:cs.length≤1000000) (hr:Row16 w a l) (hu:cV l) (hc:RowC w ca cs):
  Calls Tryz.prog 95 #[.agg #[.int .i64 W, .int .i64 H, .slice a l.length c], .agg #[.int .i64 bx, .int .i64 byy, .int .i64 bw, .int .i64 bh], .agg #[.int .i64 p.1, .int .i64 p.2], .slice ca cs.length cc] w fun e w'=> ∃v,e= .returned v∧Ext w w'∧Own u64E w' w.heap.size 38 v (fS L cs p):=by
 obtain⟨x,y⟩:=p
 have HF:=aA (fun(w':World) (hx:Ext w w')=>sM (w:=w') (c:=c) he (hr.ext hx) hu (D:=cL L (x,y)) (eY L (x,y)))
 have HLP:=aA L
 have HCS:=aA hcs
 have HC:=aA hc
 have wh:=L.wh
 obtain⟨n,hnn⟩: ∃z,l.length=z:=⟨_,rfl⟩
 obtain⟨m,hmm⟩: ∃z,cs.length=z:=⟨_,rfl⟩
 have HN:=aA hnn
 have HM:=aA hmm
 obtain⟨D,hD⟩: ∃D,cL L (x,y)=D:=⟨_,rfl⟩
 have HD:=aA hD
 have hn1:0<n:=by have:=L.idx_lt (L.in_ (lookE_ok.1 he).2.2.2);omega
 rw[hD,hnn]at HF
 rw[hnn]at wh⊢
 rw[hmm]at hl⊢
 clear he hr hu hc hcs hnn hmm hD
 go_enter Tryz.func95,Tryz.ntmps95
 go_wp2_with fail
 refine(HF.out _ z_x).mono ?_
 rintro e w1 ⟨v1,rfl,hb1,ho1⟩
 obtain⟨g,gc,rfl,hg1,hg2⟩:=ho1.pos (by rw[cJ];exact hn1)
 rw[cJ]at ho1⊢
 have B0:Hid (Blk w1 (w.heap.size) 26 #[.int .i64 W, .int .i64 H, .slice a n c]):=aA (by refine Blk.ext ?_ hb1;(repeat' (first|exact Blk.new_ (by simp)|refine Blk.drew ?_|refine Blk.over ?_)))
 have hx1:Ext w w1:=z_x
 have FA:=aA (show FarAt w1 (w.heap.size+3) g gc D n from ho1.lower (base':=w.heap.size+3) (by simp))
 have HX1:=aA hx1
 have hz1:=hx1.size
 clear hb1 ho1 hx1
 go_wp2_with fail
 obtain⟨w2,hw2⟩: ∃w2,w2=w1.alloc (.cells #[] 38):=⟨_,rfl⟩
 have O2:=aA (show Own u64E w2 w1.heap.size 38 (.slice (some ⟨w1.heap.size,0,none⟩) 0 0) [] by rw[hw2];exact Own.lit0 u64E w1 _ _ _ rfl (Nat.le_refl _))
 have hx2:Ext w1 w2:=by rw[hw2];exact(Ext.refl _).alloc _
 have HX2:=aA hx2
 rw[←hw2]
 clear hw2 hx2
 go_wp2_with fail
 go_loopw [10,11] (fun ov iv wr=> ∃k:Nat,k≤m∧iv= .int .i64 k∧Own u64E wr w1.heap.size 38 ov ((cs.take k).map (fun q=>D (aC W q)))∧Ext w1 wr) (fun _ iv _=>m-(intOf iv).toNat)
 case atStart=>exact⟨0,Nat.zero_le _,rfl,O2.out,HX2.out⟩
 obtain⟨k,hk,rfl,ho,hxx⟩:=hrel
 have HO:=aA ho
 have HXX:=aA hxx
 have hzr:=hxx.size
 have B0r:=aA (Blk.ext B0.out hxx)
 by_cases hlt:k<m
 ·obtain⟨q,hq⟩: ∃q,cs[k]? =some q:=⟨_,zG (by rw[HM.out];exact hlt)⟩
  obtain⟨b,off,rfl,hb,hcc⟩:=HC.out (by rw[HM.out];omega)
  obtain⟨hkl,hql⟩:=zJ hq
  have h1:=hcc k hkl
  rw[hql]at h1
  have hin:=HLP.out.in_ (HCS.out q (List.mem_of_getElem? hq))
  obtain⟨qx,qy⟩:=q
  have hxw:=HX1.out.trans hxx
  have d0:=(hxw.cell (p:=⟨b,off+k*2,none⟩) hb).trans h1.1
  have d1:=(hxw.cell (p:=⟨b,off+k*2+1,none⟩) hb).trans h1.2
  have hbw:b<wr.heap.size:=Nat.lt_of_lt_of_le hb hxw.size
  have hsn:=HLP.out.idx_lt hin
  rw[HN.out]at hsn
  have hsi:=bT (W:=W) hin.1 (by omega) hin.2.2.1
  have m0:=cN (a:=qy) (b:=W) (A:=256) (B:=256) (by omega) (by omega) (by omega) (by omega)
  have k1:IntKind.i64.wrap (qy*W)=qy*W:=IntWalk.i64_in _ (by omega)
  have k2:IntKind.i64.wrap (qy*W+qx)=((aC W (qx,qy):Nat):Int):=by rw[hsi];exact IntWalk.i64_in _ (by omega)
  have HT:=aA (pK cs (fun q=>D (aC W q)) hq)
  have hs0:=((FA.out.ext hxx).cell hsn).1
  have gz:=((FA.out.ext hxx).lt).2
  have HPL:Hid (((cs.take k).map (fun q=>D (aC W q))).length=k):=aA (by rw[List.length_map,List.length_take,HM.out];omega)
  have HMN:Hid (min k cs.length=k):=aA (by rw[HM.out];omega)
  obtain⟨ou,oc,hov⟩:=HO.out.slice
  subst hov
  rw[HPL.out]at HO⊢
  obtain⟨s,hs⟩: ∃s,aC W (qx,qy)=s:=⟨_,rfl⟩
  have HS:=aA hs
  rw[hs]at hsn k2 hs0
  have jk:(k:Int)<(m:Int):=by omega
  have js:(s:Int)<(n:Int):=by omega
  have u0:=B0r.out.at 0 rfl;have u1:=B0r.out.at 1 rfl;have u2:=B0r.out.at 2 rfl;have uz:=B0r.out.lt
  clear ho hxx hq hcc hkl hql h1 hin hsi m0 hxw hs
  go_wp2_with fail
  go_region_law (refine lO u64E T_u64s rfl _ _ rfl w1.heap.size _ _ _ rfl HO.out (D s) _ _ rfl _ rfl rfl (by rw[HPL.out];omega) (by rw[HPL.out];omega) (by omega) ?_;intro g9 c9 w9 o9 t9 l9;have O9:=aA o9;have X9:=aA (((Touch.of_ext (S:=fun _=>False) HXX.out).after t9 (fun k hk h=>by have:=(aF HO.out (k:=k) h).1;omega)).ext);clear o9 t9 l9)
  all_goals
   try go_wp2_with fail
   go_roundw
   case rel=>exact⟨k+1,hlt,by go_num,by have h:=O9.out;rw[HPL.out]at h;rw[HT.out];try rw[HMN.out];show Own _ _ _ _ _ (_++[D (aC W (qx,qy))]);rw[HS.out];exact h,X9.out⟩
   simp[intOf];omega
 obtain rfl:k=m:=by omega
 go_wp2_with fail
 go_ret
 exact⟨_,rfl,HX1.out.trans HXX.out,by have h:=HO.out.lower HX1.out.size;rw[List.take_of_length_le (by rw[HM.out];exact Nat.le_refl _),←HD.out]at h;exact h⟩
theorem uH {ops:Array Oper} {rest:List Oper} {o:Oper} {a:Act} {Q:Exit→Act→World→Prop} {w:World}
  (hgd:o.guard=none) (s x:Operand) (ho:o.op= .call {callee:= .builtin .append,args:= #[s,x],argTypes:= #[37,37]})
  (base:Nat) (v:Value) (hs:a.eval s=v) (hown:Own cellE w base 28 v []) (ca:Option Addr) (l:List aB) (c:Nat) (hx:a.eval x= .slice ca l.length c) (hr:RowC w ca l) (hn:ca=none→c=0)
  (hl:l.length≤1000000) (hbase:base≤w.heap.size)
  (h: ∀v' w',Own cellE w' base 28 v' l→Below base w w'→wpList Tryz.prog ops Q rest (a.put o.dst v') w'):wpList Tryz.prog ops Q (o::rest) a w:=by
 by_cases h0:0<l.length
 ·obtain⟨b,off,rfl,hb,hc⟩:=hr h0
  exact jY cellE T_cells hgd s x ho base v [] l hs hown b off c hx (Reads.cells (hr.reads h0 c)).2.2 (by simp;omega) (by simp;omega) hbase h
 obtain rfl:l=[]:=List.length_eq_zero_iff.1 (by omega)
 cases ca with
 |none=>
  obtain rfl:=hn rfl
  obtain⟨i0,hi,_,_,_⟩:=info_parts T_cells.info
  exact wpList_append_own_none hgd s x _ ho base _ i0 cellE.size T_cells.under hi v 0 [] hs hown hx (h v w hown (Below.refl base w))
 |some ad=>exact gH cellE T_cells hgd s x ho base v hs hown ad c hx hbase h
theorem RowsAt.touch_blkO {w w':World} {base tb:Nat} {t:TypeId} {cs:Array Value} {v:Value} {ll:List (List Int)} (h:RowsAt w base v ll) (B:Blk w tb t cs) (h1:78≠t) (h2:38≠t) (tt:Touch (fun j=>j=tb) w w'):RowsAt w' base v ll:=by
 obtain⟨ss,s1,s2,s3⟩:=h
 refine⟨ss,Own.touch s1 tt (fun k hk e=> ?_),s2,fun i s r hs hr=>Own.touch (s3 i s r hs hr) tt (fun k hk e=> ?_)⟩
 ·subst e;exact Blk.ne_own B s1 h1 hk
 subst e;exact Blk.ne_own B (s3 i s r hs hr) h2 hk
set_option maxRecDepth 100000 in
set_option maxHeartbeats 2000000 in
theorem aHf {w:World} {W H:Int} {a:Option Addr} {l:List Int} {bx byy bw bh:Int} (L:LandP W H l bx byy bw bh) (c:Nat) {ca:Option Addr} {cs:List aB} (cc:Nat) (hcs: ∀q,q∈cs→bO bx byy bw bh q.1 q.2=true) (hl:cs.length≤1000000) (hr:Row16 w a l) (hu:cV l) (hd:RowC w ca cs) (hn:ca=none→cc=0):
  Calls Tryz.prog 48 #[.agg #[.int .i64 W, .int .i64 H, .slice a l.length c], .agg #[.int .i64 bx, .int .i64 byy, .int .i64 bw, .int .i64 bh], .slice ca cs.length cc] w fun e w'=> ∃v1 v2,e= .returned (.agg #[v1,v2])∧Ext w w'∧Own cellE w' w.heap.size 28 v1 cs∧RowsAt w' w.heap.size v2 (cs.map (fS L cs)):=by
 have hc:=hd
 have HW:=aA (fun(w':World) (hx:Ext w w') (q:aB) (hq:q∈cs)=>aEn (w:=w') L c q (lookE_ok.2 ⟨L.may,L.len,L.fits,hcs q hq⟩) cc hcs hl (hr.ext hx) hu (hc.ext hx))
 have HC:=aA hc
 have HD:=aA hd
 have HNN:=aA hn
 obtain⟨n,hnn⟩: ∃z,l.length=z:=⟨_,rfl⟩
 obtain⟨m,hmm⟩: ∃z,cs.length=z:=⟨_,rfl⟩
 have HM:=aA hmm
 rw[hnn,hmm]at HW
 rw[hnn]
 rw[hmm]at hl⊢
 clear hr hu hc hcs hnn hmm hd hn
 go_enter Tryz.func48,Tryz.ntmps48
 go_wp2_with (at_builtin;refine uH rfl _ _ rfl (w.heap.size+3) _ rfl (Own.lit0 cellE _ _ _ _ (by simp) (by first|omega|(simp;done)|(simp;omega))) ca cs cc (by rw[HM.out];rfl) (HD.out.ext z_x) HNN.out (by rw[HM.out];omega) (by first|omega|(simp;done)|(simp;omega)) ?_;intro v9 w9 o9 b9;obtain⟨ga,gc,rfl⟩:=o9.slice;rw[HM.out]at o9;simp only[HM.out];have O9:=aA (o9.lower (base':=w.heap.size) (by omega));have B9:=aA b9;clear o9 b9)
 go_wp2_with fail
 obtain⟨wa,hwa⟩: ∃z,z=w9.alloc (.cells #[.slice ga m gc, .slice none 0 0] 121):=⟨_,rfl⟩
 have BT:=aA (show Blk wa w9.heap.size 121 #[.slice ga m gc, .slice none 0 0] by rw[hwa];exact Blk.new_ rfl)
 have hx9:Ext w w9:=Ext.of_below z_x B9.out (by omega)
 have hb3:Ext (((w.alloc (.cells #[.int .i64 W, .int .i64 H, .slice a n c] 26)).alloc (.cells #[.int .i64 bx, .int .i64 byy, .int .i64 bw, .int .i64 bh] 71)).alloc (.cells #[.slice none 0 0, .slice none 0 0] 121)) w9:=Ext.of_below z_x B9.out (by simp)
 have B0:Hid (Blk w9 (w.heap.size) 26 #[.int .i64 W, .int .i64 H, .slice a n c]):=aA (by refine Blk.ext ?_ hb3;(repeat' (first|exact Blk.new_ (by simp)|refine Blk.drew ?_|refine Blk.over ?_)))
 have B1:Hid (Blk w9 (w.heap.size+1) 71 #[.int .i64 bx, .int .i64 byy, .int .i64 bw, .int .i64 bh]):=aA (by refine Blk.ext ?_ hb3;(repeat' (first|exact Blk.new_ (by simp)|refine Blk.drew ?_|refine Blk.over ?_)))
 have B2:Hid (Blk w9 (w.heap.size+2) 121 #[.slice none 0 0, .slice none 0 0]):=aA (by refine Blk.ext ?_ hb3;(repeat' (first|exact Blk.new_ (by simp)|refine Blk.drew ?_|refine Blk.over ?_)))
 have hxa:Ext w9 wa:=by rw[hwa];exact(Ext.refl _).alloc _
 have OA:=aA (O9.out.ext hxa)
 have HXA:=aA (hx9.trans hxa)
 have hz9:=hx9.size
 rw[←hwa]
 obtain⟨tb,htb⟩: ∃z,w9.heap.size=z:=⟨_,rfl⟩
 have zt:w.heap.size+2<tb:=by have:=hb3.size;simp at this;omega
 rw[htb]at BT⊢
 have C0:=aA (Blk.ext B0.out hxa)
 have C1:=aA (Blk.ext B1.out hxa)
 have C2:=aA (Blk.ext B2.out hxa)
 clear B0 B1 B2 hxa hx9 hb3 O9 B9 hwa hz9 htb
 go_wp2_with fail
 go_loopw [8] (fun iv wr=> ∃k:Nat,k≤m∧iv= .int .i64 k∧Touch (fun j=>j=tb) wa wr∧ ∃tv,Blk wr tb 121 #[.slice ga m gc,tv]∧RowsAt wr wa.heap.size tv ((cs.take k).map (fS L cs))) (fun iv _=>m-(intOf iv).toNat)
 case atStart=>exact⟨0,Nat.zero_le _,rfl,Touch.refl _ _,_,BT.out,[],Own.nil _ _ _ _,rfl,fun i s r h=>by simp at h⟩
 obtain⟨k,hk,rfl,ht,tv,hb,hrr⟩:=hrel
 have T:=aA ht
 have BR:=aA hb
 have ht2:=ht
 have RR:=aA hrr
 have XR:=aA (HXA.out.of_below (Touch.to_below (B:=w.heap.size) ht HXA.out.size (fun k e=>by omega)) (Nat.le_refl _))
 have D0:=aA (C0.out.touch ht (by omega))
 have D1:=aA (C1.out.touch ht (by omega))
 have D2:=aA (C2.out.touch ht (by omega))
 clear ht hb hrr
 by_cases hlt:k<m
 ·obtain⟨q,hq⟩: ∃q,cs[k]? =some q:=⟨_,zG (by rw[HM.out];exact hlt)⟩
  obtain⟨b,off,rfl,hb,hcc⟩:=HC.out (by rw[HM.out];omega)
  obtain⟨hkl,hql⟩:=zJ hq
  have h1:=hcc k hkl
  rw[hql]at h1
  have d0:=(XR.out.cell (p:=⟨b,off+k*2,none⟩) hb).trans h1.1
  have d1:=(XR.out.cell (p:=⟨b,off+k*2+1,none⟩) hb).trans h1.2
  have HT:=aA (pK cs (fS L cs) hq)
  have HQ:=aA (fun w' (hx:Ext wr w')=>HW.out w' (XR.out.trans hx) q (List.mem_of_getElem? hq))
  obtain⟨ss,s1,s2,s3⟩:=RR.out
  have S1:=aA s1
  have S2:=aA s2
  have S3:=aA s3
  have HLL:=aA (show ss.length=k by rw[s2,List.length_map,List.length_take,HM.out];omega)
  have S0:=aA (show CellsAt [(⟨tb,1,none⟩,tv),(⟨w.heap.size,0,none⟩, .int .i64 W),(⟨w.heap.size,1,none⟩, .int .i64 H),(⟨w.heap.size,2,none⟩, .slice a n c),(⟨w.heap.size+1,0,none⟩, .int .i64 bx),(⟨w.heap.size+1,1,none⟩, .int .i64 byy),(⟨w.heap.size+1,2,none⟩, .int .i64 bw),(⟨w.heap.size+1,3,none⟩, .int .i64 bh),(⟨b,off+k*2,none⟩, .int .i64 q.1),(⟨b,off+k*2+1,none⟩, .int .i64 q.2)] wr from
   ⟨BR.out.at 1 rfl,D0.out.at 0 rfl,D0.out.at 1 rfl,D0.out.at 2 rfl,D1.out.at 0 rfl,D1.out.at 1 rfl,D1.out.at 2 rfl,D1.out.at 3 rfl,d0,d1,trivial⟩)
  have zb:b<w.heap.size:=hb
  have jk:(k:Int)<(m:Int):=by omega
  clear hq hcc hkl hql h1 hb d0 d1 s1 s2 s3
  go_wp2_with fail
  have zr:=ht2.size
  have zx:tb<wa.heap.size:=BT.out.lt
  refine jW (S:=(CellsAt [(⟨tb,1,none⟩,tv),(⟨w.heap.size,0,none⟩, .int .i64 W),(⟨w.heap.size,1,none⟩, .int .i64 H),(⟨w.heap.size,2,none⟩, .slice a n c),(⟨w.heap.size+1,0,none⟩, .int .i64 bx),(⟨w.heap.size+1,1,none⟩, .int .i64 byy),(⟨w.heap.size+1,2,none⟩, .int .i64 bw),(⟨w.heap.size+1,3,none⟩, .int .i64 bh),(⟨b,off+k*2,none⟩, .int .i64 q.1),(⟨b,off+k*2+1,none⟩, .int .i64 q.2)])) 13 [(0,true),(1,true),(2,true),(3,true),(4,true),(5,true),(6,true),(7,true),(8,true),(9,false),(10,false),(11,false),(12,true),(13,false)] (by kernel_rfl) (by kernel_rfl) (by kernel_rfl) (by decide) (fun _ _ d _ _ h=>by cases d<;>exact h) (CellsAt.ext ((Ext.refl _).drew) S0.out) (fun hK0=> ?_)
  iterate 9 (refine SeqR.fr2 ?_;try simp only[zz])
  (apply SeqR.step;(·(simp only[z_0,z_1,z_2];rfl));intro K hK;go_simp;refine(HQ.out _ z_x).mono ?_;rintro e w6 ⟨v6,rfl,hx6,ho6⟩;obtain⟨a6,c6,rfl⟩:=ho6.slice;have hx06:Ext wr w6:=z_x;have S6:=aA (CellsAt.ext hx06 S0.out);have O6:=aA (S1.out.ext hx06);have X6:=aA hx06;have R6:=aA (ho6.lower (base':=wa.heap.size) (by simp;omega));have B6:=aA (BR.out.ext hx06);have z6:=hx06.size;clear hx6 ho6 hx06;go_wp2_with fail;refine hK.out _ _ (fun _=>(S6.out)) (fun hK0=> ?_);replace hK0:=hK0 (by decide);clear hK K;try simp only[zz])
  (apply SeqR.step;(·(simp only[z_0,z_1,z_2];rfl));intro K hK;go_simp;refine hK.out _ _ (fun _=>(CellsAt.ext z_x S6.out)) (fun hK0=> ?_);replace hK0:=hK0 (by decide);clear hK K;try simp only[zz])
  (apply SeqR.step;(·(simp only[z_0,z_1,z_2];rfl));intro K hK;refine fX iG sV (by rfl) _ _ (by rfl) wa.heap.size w6 tv ss (by rfl) O6.out (a6,(fS L cs q).length,c6) _ _ (by rfl) _ (by rfl) (by rfl) (by rw[HLL.out];omega) (by rw[HLL.out];omega) (by omega) ?_;intro g9 c9 w9 o9 t9 l9;have hs3: ∀(x:Option Addr×Nat×Nat) (y:List Int),Own u64E w6 wa.heap.size 38 (.slice x.1 x.2.1 x.2.2) y→Own u64E w9 wa.heap.size 38 (.slice x.1 x.2.1 x.2.2) y:=(fun x y hy=>Own.touch hy t9 (fun k hk hu=>jT O6.out hy (by decide) hu hk));have R9:=aA (show RowsAt w9 wa.heap.size _ ((cs.take (k+1)).map (fS L cs)) by rw[HT.out];exact RowsAt.snoc (w:=w6) S2.out (fun i s r h1 h2=>(S3.out i s r h1 h2).ext X6.out) o9 (hs3 _ _ R6.out) hs3);have B9:=aA (B6.out.touch t9 (fun h=>Blk.ne_own B6.out O6.out (by decide) h));have S9:=aA (CellsAt.touch t9 (fun p hp h=>(by have hl:=(aF O6.out h).1;simp only[List.mem_cons,List.not_mem_nil,or_false]at hp;rcases hp with rfl|rfl|rfl|rfl|rfl|rfl|rfl|rfl|rfl|rfl<;>simp only at hl<;>omega)) S6.out);have T9:=aA ((T.out.trans (Touch.of_ext X6.out)).after t9 (fun k hk h=>(by have hl:=(aF O6.out h).1;omega)));have b1:=B9.out.at 1 rfl;have f1:=B9.out.frozen 1;clear o9 t9 l9 hs3;refine hK.out _ _ (fun _=>(S9.out)) (fun hK0=> ?_);replace hK0:=hK0 (by decide);clear hK K;try simp only[zz])
  iterate 1 (refine SeqR.fr2 ?_;try simp only[zz])
  (apply SeqR.step;(·(simp only[z_0,z_1,z_2];rfl));intro K hK;go_simp;refine hK.out _ _ (fun h=>absurd rfl h) (fun hK0=> ?_);clear hK K;try simp only[zz])
  refine SeqR.done ?_
  go_wp2_with fail
  go_roundw
  case rel=>
   have TB:Touch (fun j=>j=tb) w9 (w9.setCell ⟨tb,1,none⟩ (.slice (some ⟨g9,0,none⟩) (ss.length+1) c9)):=(Touch.refl (fun j=>j=tb) w9).setCell (p:=⟨tb,1,none⟩) (.inl rfl) _
   exact⟨k+1,hlt,by go_num,T9.out.trans TB,_,B9.out.set_ 1 _,R9.out.touch_blkO B9.out (by decide) (by decide) TB⟩
  simp[intOf];omega
 obtain rfl:k=m:=by omega
 have HTK:Hid (cs.take k=cs):=aA (List.take_of_length_le (by rw[HM.out];exact Nat.le_refl _))
 rw[HTK.out]at RR
 have p0:=BR.out.at 0 rfl;have p1:=BR.out.at 1 rfl;have pz:=BR.out.lt
 obtain⟨ss,s1,s2,s3⟩:=RR.out
 obtain⟨ta,tc,rfl⟩:=s1.slice
 clear s1 s3 s2
 obtain⟨sn,hsn⟩: ∃z,ss.length=z:=⟨_,rfl⟩
 rw[hsn]at RR p1 BR
 clear hsn
 have E2:Hid (Blk wr (w.heap.size+1+1) 121 #[.slice none 0 0, .slice none 0 0]):=aA D2.out
 have q0:=E2.out.at 0 rfl;have q1:=E2.out.at 1 rfl;have qz:=E2.out.lt
 have f0:=E2.out.frozen 0
 have f1:=E2.out.frozen 1
 have TE:=aA (aAs wr (w.heap.size+1+1) (.slice ga k gc) (.slice ta sn tc))
 have BE:=aA ((E2.out.set_ 0 (.slice ga k gc)).set_ 1 (.slice ta sn tc))
 have OE:=aA (Own.touch (OA.out.touch ht2 (fun j hj e=>by subst e;exact Blk.ne_own BT.out OA.out (by decide) hj)) TE.out (fun j hj e=>by subst e;exact Blk.ne_own E2.out (OA.out.touch ht2 (fun j hj e=>by subst e;exact Blk.ne_own BT.out OA.out (by decide) hj)) (by decide) hj))
 have RE:=aA ((RR.out.touch_blkO E2.out (by decide) (by decide) TE.out).lower (base':=w.heap.size) HXA.out.size)
 have XE:=aA (XR.out.of_below (Touch.to_below (B:=w.heap.size) TE.out XR.out.size (fun j e=>by omega)) (Nat.le_refl _))
 clear ht2
 go_wp2_with fail
 have e0:=BE.out.at 0 rfl
 have e1:=BE.out.at 1 rfl
 have ez:=BE.out.lt
 exact bodyPost_ret (v:= .agg #[.slice ga k gc, .slice ta sn tc]) (by simp[results,Tryz.results48,go_sem, *]) rfl ⟨_,_,rfl,XE.out,OE.out,RE.out⟩
end Go.Proofs.YtaellcgglldjaaaGreat

