/- Part of a proof: RedE RedI FloodQ NetP. -/
import Derived.Test.YtaellcgglldjaaaGreatHierFindsQ19
import Derived.Test.YtaellcgglldjaaaGreatHierFindsQ20
import Derived.Test.YtaellcgglldjaaaGreatHierFindsQ10
set_option linter.all false
set_option linter.unusedVariables false
set_option linter.unusedSimpArgs false
namespace Go.Proofs.YtaellcgglldjaaaGreat
open Go.RowKit
theorem oG {w:World} {base n c g:Nat} {e:TypeId} {ts:List (Sl×Sl)} (h:Own tabE w base e (.slice (some ⟨g,0,none⟩) n c) ts) (j:Nat):w.frozen? ⟨g,j,none⟩=false:=by
 obtain⟨a',c',en⟩:=h.slice
 have en':n=ts.length:=by injection en
 clear en
 subst en'
 have h':w.ownsRow base e 2 (.slice (some ⟨g,0,none⟩) ts.length c) ts.length (ts.flatMap tabE.cells):=h
 exact h'.frozenAt j
theorem aLj {W H s a b:Int} (hr:aK W H s=true) (h:mD W H s a b):Rg a b:=by
 have:=mI hr
 obtain⟨h1,h2,h3,h4⟩:=h
 exact⟨⟨h1,by omega⟩,⟨by omega,by omega⟩⟩
def lD (W H s:Int) (l:List Int) (tu:List Bool) (T:List Tab) (i:Nat):Bool:=tu.getD i false|| !(decide (bR W H s l (i:Int)=(T.getD i ([],[])).1))
def gY (W H s:Int) (l:List Int) (tu:List Bool) (T:List Tab) (k:Nat):List Int:=((List.range k).filter (lD W H s l tu T)).map (fun i:Nat=>(i:Int))
noncomputable def zQ (W H s:Int) (l:List Int) (tu:List Bool) (T:List Tab) (i:Nat):Tab:=if lD W H s l tu T i=true then dK W H s l (i:Int) else T.getD i ([],[])
theorem aI8 {W H s:Int} {l:List Int} {tu:List Bool} {T:List Tab} {k:Nat} (h:lD W H s l tu T k=true):gY W H s l tu T (k+1)=gY W H s l tu T k++[(k:Int)]:=by
 unfold gY
 rw[List.range_succ,List.filter_append,List.map_append]
 simp[h]
theorem aKb {W H s:Int} {l:List Int} {tu:List Bool} {T:List Tab} {k:Nat} (h:lD W H s l tu T k=false):gY W H s l tu T (k+1)=gY W H s l tu T k:=by
 unfold gY
 rw[List.range_succ,List.filter_append,List.map_append]
 simp[h]
theorem aI7 (W H s:Int) (l:List Int) (tu:List Bool) (T:List Tab) (k:Nat):(gY W H s l tu T k).length≤k:=by
 unfold gY
 rw[List.length_map]
 exact Nat.le_trans (List.length_filter_le _ _) (by simp)
def aMn (w:World) (p:Spot) (R:Nat→Prop) (W H s:Int) (l:List Int) (tu:List Bool) (T:List Tab) (e:Ending) (w':World):Prop:=
 ∃v R' G' T',e= .returned v∧Own intE w' w.heap.size 3 v (gY W H s l tu T T.length)∧Stand w' p R' W H s l G' T'∧xN W H s l G'∧(∀i,i<T.length→T'[i]? =some (zQ W H s l tu T i))∧Touch p.F w w'∧ ∀k,R' k→R k∨w.heap.size≤k
set_option maxRecDepth 100000 in
set_option maxHeartbeats 2000000 in
theorem aFp {w:World} {p:Spot} {R:Nat→Prop} {W H s:Int} {l:List Int} {G:Int→Int→Option (List (aB×aB))} {T:List Tab} (h:Stand w p R W H s l G T) {tg tc N:Nat} {tu:List Bool} (hT:T.length=N) (hn:tu.length=N)
  (ho:Own boolE w 0 4 (.slice (some ⟨tg,0,none⟩) N tc) tu) (hF: ¬p.F tg) (hG: ∀a b,mD W H s a b→tu.getD a.toNat false=true∨tu.getD b.toNat false=true∨G a b=some (btw l W H s a b)) (hs:(aD W H s l).length≤50000):
  Calls Tryz.prog 38 #[.pointer (some ⟨p.b,0,none⟩), .slice (some ⟨tg,0,none⟩) N tc] w (aMn w p R W H s l tu T):=by
 have ht:=h.good.right
 have HN:=aA (show cnt W H s=(N:Int) by rw[←hT];exact h.num.symm)
 have hN2:N≤65536:=by have:=h.good.cnt;have:=HN.out;omega
 have HOK:=aA h.good
 have HST:=aA h
 have HTU:=aA hn
 have HTN:=aA hT
 have HOT:=aA ho
 have HGG:=aA hG
 have HS:=aA hs
 have hpm:tg≠p.m:=fun e=>hF (.inr (.inl e))
 have hpt:tg≠p.tb:=fun e=>hF (.inr (.inr e))
 have hztg:=(aF ho (k:=tg) rfl).2
 have hzb:=h.foot (k:=p.b) (.inl rfl)
 have hzm:=h.foot (k:=p.m) (.inr (.inl rfl))
 have hzt:=h.foot (k:=p.tb) (.inr (.inr rfl))
 have hbm:=h.bm
 have hbt:=h.bt
 have hmt:=h.mt
 clear h hT hn ho hG hs hF
 go_enter Tryz.func38,Tryz.ntmps38
 go_wp2_with fail
 have BX:Hid (Blk ((w.alloc (.cells #[.pointer (some ⟨p.b,0,none⟩)] 33)).alloc (.cells #[.slice (some ⟨tg,0,none⟩) N tc] 96)) w.heap.size 33 #[.pointer (some ⟨p.b,0,none⟩)]):=aA (Blk.over (Blk.new_ rfl))
 have BY:Hid (Blk ((w.alloc (.cells #[.pointer (some ⟨p.b,0,none⟩)] 33)).alloc (.cells #[.slice (some ⟨tg,0,none⟩) N tc] 96)) (w.heap.size+1) 96 #[.slice (some ⟨tg,0,none⟩) N tc]):=aA (Blk.new_ (by simp))
 have X2:Hid (Ext w ((w.alloc (.cells #[.pointer (some ⟨p.b,0,none⟩)] 33)).alloc (.cells #[.slice (some ⟨tg,0,none⟩) N tc] 96))):=aA z_x
 have hz2:((w.alloc (.cells #[.pointer (some ⟨p.b,0,none⟩)] 33)).alloc (.cells #[.slice (some ⟨tg,0,none⟩) N tc] 96)).heap.size=w.heap.size+2:=by simp
 obtain⟨w2,hw2⟩: ∃w2,(w.alloc (.cells #[.pointer (some ⟨p.b,0,none⟩)] 33)).alloc (.cells #[.slice (some ⟨tg,0,none⟩) N tc] 96)=w2:=⟨_,rfl⟩
 rw[hw2]at BX BY X2 hz2⊢
 obtain⟨f,hf⟩: ∃f,w.heap.size=f:=⟨_,rfl⟩
 have HF:=aA hf
 have HZ2:=aA hz2
 have hf2:w.heap.size+2≤w2.heap.size:=by omega
 rw[hf]at BX BY hztg hzb hzm hzt HZ2 hf2⊢
 clear hw2 hf hz2
 have S2:=aA (HST.out.ext X2.out)
 have OT2:=aA (HOT.out.ext X2.out)
 go_loopw [21] (fun i wr=> ∃(k:Nat) (R1:Nat→Prop) (G1:Int→Int→Option (List (aB×aB))),k≤N∧i= .int .i64 (k:Int)∧Stand wr p R1 W H s l G1 T∧Inv W H s l tu G k G1∧Touch (fun j=>j=p.m) w2 wr∧ ∀j,R1 j→R j∨w2.heap.size≤j) (fun i _=>N-(intOf i).toNat)
 case atStart=>exact⟨0,R,G,Nat.zero_le _,rfl,S2.out,(fun a b _ hc=>by rcases hc with⟨_,h⟩|⟨_,h⟩|h;(·simp at h;have:=(‹mD W H s a b›).1;omega);(·simp at h;have:=(‹mD W H s a b›);unfold mD at this;omega);(·exact h)),Touch.refl _ _,fun j hj=> .inl hj⟩
 obtain⟨k,R1,G1,hk,rfl,hst,hinv,htt,hrr⟩:=hrel
 have ST:=aA hst
 have IV:=aA hinv
 have TT:=aA htt
 have RR:=aA hrr
 have hz:=htt.size
 clear hst hinv htt hrr
 by_cases hlt:k<N
 ·obtain⟨tk,htk⟩: ∃tk,tu[k]? =some tk:=⟨_,zG (by rw[HTU.out];exact hlt)⟩
  have HTK:=aA htk
  have OTr:=aA (OT2.out.touch TT.out (fun j hj e=>by cases hj;exact hpm e))
  have cb:=rQ OTr.out htk
  have zg:tg<wr.heap.size:=by have:=(aF OTr.out (k:=tg) rfl).2;omega
  have jk:(k:Int)<(N:Int):=by omega
  clear htk
  cases tk with
  |false=>
   go_wp2
   go_roundw
   case rel=>exact⟨k+1,R1,G1,by omega,by go_num,ST.out,IV.out.skip HTK.out,TT.out,RR.out⟩
   simp[intOf];omega
  |true=>
   have BXr:=aA (BX.out.touch TT.out (by omega))
   have Br:=aA ST.out.blk
   unfold cU at Br
   have x0:=BXr.out.at 0 rfl;have xz:=BXr.out.lt
   have b0:=Br.out.at 0 rfl;have b1:=Br.out.at 1 rfl;have b2:=Br.out.at 2 rfl;have b3:=Br.out.at 3 rfl;have b4:=Br.out.at 4 rfl;have b5:=Br.out.at 5 rfl;have b6:=Br.out.at 6 rfl;have b7:=Br.out.at 7 rfl;have bz:=Br.out.lt
   have HKC:=aA (show(k:Int)<cnt W H s by rw[HN.out];omega)
   go_wp2_with fail
   refine(oM W H s (k:Int) _ ht (by omega) HKC.out).mono ?_
   rintro e w3 ⟨v3,rfl,x3,o3⟩
   obtain⟨a3,c3,rfl⟩:=o3.slice
   have hm4:=kO W H s (k:Int)
   have HBN:=aA (fun b (hb:b∈aQ W H s (k:Int))=>aB6 ht (by omega) HKC.out hb)
   have HBR:=aA (fun b (hb:b∈aQ W H s (k:Int))=>jG ht (by omega) HKC.out hb)
   have HNX:=aA (fun(G':Int→Int→Option (List (aB×aB))) (hi:Inv W H s l tu G k G') (hj:InvJ W H s l G' k (aQ W H s (k:Int)) (aQ W H s (k:Int)).length)=>hi.next ht hj)
   generalize aQ W H s (k:Int)=L at *
   obtain⟨m,hmm⟩: ∃m,L.length=m:=⟨_,rfl⟩
   have HMM:=aA hmm
   rw[hmm]at o3 hm4 HNX⊢
   have O3:=aA o3
   have X3:=aA x3
   have TT3:=aA (TT.out.trans (Touch.of_ext x3))
   have ST3:=aA (ST.out.ext x3)
   have z3:=x3.size
   clear hmm o3 x3 x0 xz b0 b1 b2 b3 b4 b5 b6 b7 bz BXr Br
   go_wp2_with fail
   go_loopw [39] (fun i wy=> ∃(j:Nat) (R2:Nat→Prop) (G2:Int→Int→Option (List (aB×aB))),j≤m∧i= .int .i64 (j:Int)∧Stand wy p R2 W H s l G2 T∧Inv W H s l tu G k G2∧InvJ W H s l G2 k L j∧Touch (fun j=>j=p.m) w2 wy∧(∀j,R2 j→R j∨w2.heap.size≤j)∧Own intE wy w2.heap.size 3 (.slice a3 m c3) L) (fun i _=>m-(intOf i).toNat)
   case atStart=>exact⟨0,R1,G1,Nat.zero_le _,rfl,ST3.out,IV.out,(fun i b hi _=>absurd hi (Nat.not_lt_zero i)),TT3.out,RR.out,O3.out.lower (by have:=TT.out.size;omega)⟩
   obtain⟨j,R2,G2,hj,rfl,hst,hinv,hinj,htt,hrr,hnn⟩:=hrel
   have ST:=aA hst
   have IV:=aA hinv
   have IJ:=aA hinj
   have TT:=aA htt
   have RR:=aA hrr
   have NN:=aA hnn
   have hzy:=htt.size
   clear hst hinv hinj htt hrr hnn ST3 TT3 X3 O3
   by_cases hltj:j<m
   ·obtain⟨b,hb⟩: ∃b,L[j]? =some b:=⟨_,zG (by rw[HMM.out];exact hltj)⟩
    have HB:=aA hb
    have hbm:=List.mem_of_getElem? hb
    have hb1:=HBR.out b hbm
    have HNB:=aA (HBN.out b hbm)
    obtain⟨g,rfl,cg,zg2⟩:=tR NN.out hb
    have HG2:=aA (fun(w':World) (xw:Ext wr w')=>uN W H p.ca l p.cc s (k:Int) b w' HOK.out.ok (ST.out.row.ext xw) ht (by omega) HKC.out hb1.1 hb1.2 (zP HNB.out))
    have BXr:=aA (BX.out.touch TT.out (by omega))
    have Br:=aA ST.out.blk
    unfold cU at Br
    have x0:=BXr.out.at 0 rfl;have xz:=BXr.out.lt
    have b0:=Br.out.at 0 rfl;have b1:=Br.out.at 1 rfl;have b2:=Br.out.at 2 rfl;have b3:=Br.out.at 3 rfl;have b4:=Br.out.at 4 rfl;have b5:=Br.out.at 5 rfl;have b6:=Br.out.at 6 rfl;have b7:=Br.out.at 7 rfl;have bz:=Br.out.lt
    clear hb hbm
    go_wp2_with fail
    refine aS wr [(0,true),(1,true),(2,true),(3,true),(4,true),(5,true),(6,true),(7,true),(8,true),(9,true),(10,false),(11,true),(12,true),(13,true),(14,true),(15,true)] (fun hK0=> ?_)
    iterate 10 (refine SeqH.fr1 ?_;try simp only[zz])
    (refine aP ?_;intro K hK;go_simp;refine(HG2.out _ z_x).mono ?_;rintro e w6 ⟨v6,rfl,x6,o6⟩;have O6:=aA o6;clear o6;go_wp2_with fail;refine hK.out _ _ (aI z_x) (fun hK0=> ?_);clear hK K;try simp only[zz])
    iterate 5 (refine SeqH.fr1 ?_;try simp only[zz])
    refine SeqH.done ?_
    have X6:=aA hK0.2
    clear hK0 x6
    have hz6:=X6.out.size
    have z26:=TT.out.size
    have ST6:=aA ((ST.out.ext X6.out).widen (R':=fun q=>R2 q∨(wr.heap.size≤q∧q<w6.heap.size)) (fun q hq=> .inl hq) (fun q hq=>hq.elim (fun h=>Nat.lt_of_lt_of_le (ST.out.lt q h) hz6) (fun h=>h.2)) (fun q hq hf=>hq.elim (fun h=>ST.out.apart q h hf) (fun h=>by have:=ST.out.foot hf;omega)))
    obtain⟨w7,hrun,st7,t7⟩:=ST6.out.put (aLj ht HNB.out) (v:=v6) (L:=btw l W H s (k:Int) b) (O6.out.lower (Nat.zero_le _)) (fun q hq=> .inr (by have:=aF O6.out hq;simpa using this))
    have ST7:=aA st7
    have T7:=aA t7
    obtain⟨va,vc,hv6⟩:=O6.out.slice
    have BXq:=aA (BX.out.touch (TT.out.trans (Touch.of_ext X6.out)) (by omega))
    have Bq:=aA ST6.out.blk
    unfold cU at Bq
    have y0:=BXq.out.at 0 rfl
    have yz:=BXq.out.lt
    have q6:=Bq.out.at 6 rfl
    have qz:=Bq.out.lt
    clear st7 t7 hv6 x0 xz b0 b1 b2 b3 b4 b5 b6 b7 bz BXr Br cg BXq Bq
    go_wp2_with fail
    go_roundw
    case rel=>
     exact⟨j+1,_,_,by omega,by go_num,ST7.out,IV.out.put b,IJ.out.put HB.out,(TT.out.trans (Touch.of_ext X6.out)).trans T7.out,fun q hq=>hq.elim (fun h=>RR.out q h) (fun h=> .inr (by omega)),(NN.out.ext X6.out).touch T7.out (fun q hq e=>by
      obtain⟨f',mv,_⟩:=ST6.out.gates
      exact mv.not_own (NN.out.ext X6.out) (by rw[←e];exact hq))⟩
    simp[intOf];omega
   obtain rfl:j=m:=by omega
   go_wp2
   go_roundw
   case rel=>exact⟨k+1,R2,G2,by omega,by go_num,ST.out,HNX.out G2 IV.out IJ.out,TT.out,RR.out⟩
   simp[intOf];omega
 obtain rfl:N=k:=by omega
 have GF:=aA (IV.out.full HN.out.symm HGG.out)
 have BXr:=aA (BX.out.touch TT.out (by omega))
 have BYr:=aA (BY.out.touch TT.out (by omega))
 have OTr:=aA (OT2.out.touch TT.out (fun j hj e=>by cases hj;exact hpm e))
 have x0:=BXr.out.at 0 rfl;have xz:=BXr.out.lt
 clear S2 OT2 IV HGG BX BY HST HOT
 go_wp2_with fail
 refine(rR ST.out GF.out).mono ?_
 rintro e w5 ⟨v5,rfl,x5,o5⟩
 obtain⟨a5,c5,rfl⟩:=o5.slice
 have O5:=aA o5
 have ST5:=aA (ST.out.ext x5)
 have OT5:=aA (OTr.out.ext x5)
 have BX5:=aA (BXr.out.ext x5)
 have BY5:=aA (BYr.out.ext x5)
 have TT5:=aA (TT.out.trans (Touch.of_ext x5))
 have hz5:=x5.size
 have HGC:=aA (fun(w':World) (B:Nat) (o:Own aT w' B 160 (.slice a5 (aD W H s l).length c5) (aD W H s l)) (i:Nat) (hi:(i:Int)<cnt W H s)=>aBk W H s (i:Int) a5 c5 (aD W H s l) w' ht (by omega) hi HS.out (fun _=>o.reads))
 have HGL:=aA (show(.slice a5 (aD W H s l).length c5:Value).ownBlock≠some p.tb from fun e=>by have:=(aF O5.out e).1;omega)
 obtain⟨gn,hgn⟩: ∃z,(aD W H s l).length=z:=⟨_,rfl⟩
 rw[hgn]at O5 HGC HGL⊢
 have B5:=aA ST5.out.blk
 unfold cU at B5
 rw[HTN.out]at B5
 have x50:=BX5.out.at 0 rfl
 have x5z:=BX5.out.lt
 have b57:=B5.out.at 7 rfl
 have b5z:=B5.out.lt
 have hnN: ∀i,i<N→T[i]? =some (T.getD i ([],[])):=fun i hi=>by rw[List.getD_eq_getElem?_getD,zG (by rw[HTN.out];exact hi)];rfl
 have HNN:=aA hnN
 clear x5 o5 x0 xz BXr BYr OTr hgn hnN
 go_wp2_with fail
 clear x50 x5z b57 b5z B5
 go_loopw [15,79] (fun ov iv wq=> ∃(k:Nat) (R2:Nat→Prop) (T2:List Tab),k≤N∧iv= .int .i64 (k:Int)∧Stand wq p R2 W H s l G1 T2∧(T2.length=N∧ ∀i,i<N→T2[i]? =some (if i<k then zQ W H s l tu T i else T.getD i ([],[])))∧Own intE wq w5.heap.size 3 ov (gY W H s l tu T k)∧(∀q,ov.ownBlock=some q→ ¬R2 q)∧Touch (fun j=>j=p.tb) w5 wq∧ ∀q,R2 q→R q∨w2.heap.size≤q) (fun _ iv _=>N-(intOf iv).toNat)
 case atStart=>exact⟨0,R1,T,Nat.zero_le _,rfl,ST5.out,⟨HTN.out,fun i hi=>by rw[if_neg (by omega)];exact HNN.out i hi⟩,Own.nil _ _ _ _,(fun q hq=>by cases hq),Touch.refl _ _,RR.out⟩
 obtain⟨k,R2,T2,hk2,rfl,hst,⟨htl,htk⟩,hov,hor,htt,hrr⟩:=hrel
 have ST2:=aA hst
 have TL:=aA htl
 have TK:=aA htk
 have OV:=aA hov
 have OR:=aA hor
 have TQ:=aA htt
 have RQ:=aA hrr
 have hzq:=htt.size
 clear hst htl htk hov hor htt hrr ST ST5
 by_cases hlt2:k<N
 ·obtain⟨tk,htk⟩: ∃tk,tu[k]? =some tk:=⟨_,zG (by rw[HTU.out];exact hlt2)⟩
  have T2k:=aA (show T2[k]? =some (T.getD k ([],[])) by rw[TK.out k hlt2,if_neg (Nat.lt_irrefl k)])
  have OT:=aA (OT5.out.touch TQ.out (fun j hj e=>by cases hj;exact hpt e))
  have cb:=rQ OT.out htk
  have BXq:=aA (BX5.out.touch TQ.out (by omega))
  have BYq:=aA (BY5.out.touch TQ.out (by omega))
  have Bq:=aA ST2.out.blk
  unfold cU at Bq
  rw[TL.out]at Bq
  have hki:0≤(k:Int)∧(k:Int)<cnt W H s:=⟨by omega,by rw[HN.out];omega⟩
  have HKI:=aA hki
  have HCk:Hid (Calls Tryz.prog 81 #[.agg #[.int .i64 W, .int .i64 H, .int .i64 s], .slice a5 gn c5, .int .i64 (k:Int)] wr (vE wr (bR W H s l (k:Int)) 0)):=aA (HGC.out wr _ (O5.out.touch TQ.out (fun j hj e=>HGL.out (by rw[←e];exact hj))) k hki.2)
  have SB:=aA (show lD W H s l tu T k=(tk|| !(decide (bR W H s l (k:Int)=(T.getD k ([],[])).1))) by unfold lD;rw[List.getD_eq_getElem?_getD,htk];rfl)
  have CI:=aA (aIo HOK.out hki)
  have CL:=aA (sC HOK.out hki)
  have CO:=aA (aL5 HOK.out hki)
  have x0:=BXq.out.at 0 rfl;have xz:=BXq.out.lt
  have b0:=Bq.out.at 0 rfl;have b1:=Bq.out.at 1 rfl;have b2:=Bq.out.at 2 rfl;have b3:=Bq.out.at 3 rfl;have b4:=Bq.out.at 4 rfl;have b5:=Bq.out.at 5 rfl;have b6:=Bq.out.at 6 rfl;have b7:=Bq.out.at 7 rfl;have bz:=Bq.out.lt
  clear htk hki
  go_wp2_with fail
  refine(HCk.out).mono ?_
  rintro e w6 ⟨v6,rfl,x6,o6⟩
  obtain⟨a6,c6,rfl⟩:=o6.slice
  have O6:=aA o6
  have ST6:=aA (ST2.out.ext x6)
  have OV6:=aA (OV.out.ext x6)
  have TQ6:=aA (TQ.out.trans (Touch.of_ext x6))
  have BX6:=aA (BXq.out.ext x6)
  have BY6:=aA (BYq.out.ext x6)
  have hz6:=x6.size
  have cb6:=(x6.cell (p:=⟨tg,k,none⟩) (by have:=TQ.out.size;have:=(aF OT.out (k:=tg) rfl).2;omega)).trans cb
  have y0:=BY6.out.at 0 rfl
  clear o6 x6 x0 xz b0 b1 b2 b3 b4 b5 b6 b7 bz BXq BYq Bq cb ST2 OV HCk
  have x0:=BX6.out.at 0 rfl
  have HSTL:=aI2 ST6.out (b1:=f+1) (b2:=f) y0 x0 TL.out hlt2 cb6 c6 (Reads.rowC O6.out.reads).2 (by have:=CL.out;omega) T2k.out
  rw[←SB.out]at HSTL
  obtain⟨cn,hcn⟩: ∃z,(bR W H s l (k:Int)).length=z:=⟨_,rfl⟩
  have HCN:=aA hcn
  rw[hcn]at HSTL⊢
  have HSTL:=aA HSTL
  clear hcn y0 x0 cb6
  go_wp2_with fail
  refine(HSTL.out).mono ?_
  rintro e w7 ⟨rfl,x7⟩
  have ST7:=aA (ST6.out.ext x7)
  have OV7:=aA (OV6.out.ext x7)
  have TQ7:=aA (TQ6.out.trans (Touch.of_ext x7))
  have BX7:=aA (BX6.out.ext x7)
  have O7:=aA (O6.out.ext x7)
  have hz7:=x7.size
  clear x7 ST6 OV6 TQ6 BX6 BY6 HSTL
  cases hsb:lD W H s l tu T k with
  |false=>
   have HSB:=aA hsb
   clear hsb
   go_wp2
   go_roundw
   case rel=>exact⟨k+1,R2,T2,by omega,by go_num,ST7.out,⟨TL.out,fun i hi=>by
     rw[TK.out i hi]
     by_cases hik:i<k
     ·rw[if_pos hik,if_pos (by omega)]
     rw[if_neg hik]
     by_cases he:i=k
     ·subst he;rw[if_pos (by omega)];unfold zQ;rw[HSB.out];rfl
     rw[if_neg (by omega)]⟩,by rw[aKb HSB.out];exact OV7.out,OR.out,TQ7.out,RQ.out⟩
   simp[intOf];omega
  |true=>
   have HSB:=aA hsb
   have B7:=aA ST7.out.blk
   unfold cU at B7
   rw[TL.out]at B7
   have S7:=aA (show CellsAt [(⟨f,0,none⟩, .pointer (some ⟨p.b,0,none⟩)),(⟨p.b,0,none⟩, .int .i64 W),(⟨p.b,1,none⟩, .int .i64 H),(⟨p.b,2,none⟩, .slice p.ca l.length p.cc),(⟨p.b,3,none⟩, .int .i64 W),(⟨p.b,4,none⟩, .int .i64 H),(⟨p.b,5,none⟩, .int .i64 s),(⟨p.b,7,none⟩, .slice (some ⟨p.tb,0,none⟩) N p.tc)] w7 from
    ⟨BX7.out.at 0 rfl,B7.out.at 0 rfl,B7.out.at 1 rfl,B7.out.at 2 rfl,B7.out.at 3 rfl,B7.out.at 4 rfl,B7.out.at 5 rfl,B7.out.at 7 rfl,trivial⟩)
   have HTA:=aA (show dK W H s l (k:Int)=(bR W H s l (k:Int),(bR W H s l (k:Int)).map (fS (HOK.out.box HKI.out) (bR W H s l (k:Int)))) from rD (HOK.out.box HKI.out) _)
   have HIO:Hid (∀w',Ext w7 w'→Calls Tryz.prog 82 #[.agg #[.int .i64 W, .int .i64 H, .slice p.ca l.length p.cc], .agg #[.int .i64 W, .int .i64 H, .int .i64 s], .int .i64 (k:Int), .slice a6 cn c6] w' fun e w''=> ∃v1 v2,e= .returned (.tuple #[.agg #[v1,v2], .int .i64 0])∧Ext w' w''∧Own cellE w'' w'.heap.size 28 v1 (dK W H s l (k:Int)).1∧RowsAt w'' w'.heap.size v2 (dK W H s l (k:Int)).2):=aA (fun w' x=>by
    rw[HTA.out,←HCN.out]
    exact aMa (w:=w') p.cc c6 (ST7.out.row.ext x) HOK.out.u16 (Reads.rowC (O7.out.ext x).reads).2 (by have:=CL.out;omega) CI.out CO.out (HOK.out.box HKI.out))
   have HTL:=aA (pI HOK.out HKI.out)
   have jk:(k:Int)<(N:Int):=by omega
   clear hsb HCN
   go_wp2_with fail
   refine bM (S:=(CellsAt [(⟨f,0,none⟩, .pointer (some ⟨p.b,0,none⟩)),(⟨p.b,0,none⟩, .int .i64 W),(⟨p.b,1,none⟩, .int .i64 H),(⟨p.b,2,none⟩, .slice p.ca l.length p.cc),(⟨p.b,3,none⟩, .int .i64 W),(⟨p.b,4,none⟩, .int .i64 H),(⟨p.b,5,none⟩, .int .i64 s),(⟨p.b,7,none⟩, .slice (some ⟨p.tb,0,none⟩) N p.tc)])) [(0,true),(1,true),(2,true),(3,true),(4,true),(5,true),(6,true),(7,true),(8,true),(9,true),(10,true),(11,true),(12,true),(13,true),(14,true),(15,false),(16,true),(17,true),(18,true),(19,true),(20,false)] (by kernel_rfl) (by kernel_rfl) (by kernel_rfl) (by decide) (fun _ _ d _ _ h=>by cases d<;>exact h) (CellsAt.ext ((Ext.refl _).drew) S7.out) (fun hK0=> ?_)
   iterate 15 (refine SeqH.fr2 ?_;try simp only[zz])
   (refine aP ?_;intro K hK;go_simp;refine(HIO.out _ z_x).mono ?_;rintro e w8 ⟨v1,v2,rfl,x8,o8,r8⟩;obtain⟨a81,c81,rfl⟩:=o8.slice;obtain⟨a82,c82,rfl,_⟩:=iR r8;have hx8:Ext w7 w8:=z_x;have X8:=aA hx8;have S8:=aA (CellsAt.ext hx8 S7.out);have O8:=aA o8;have R8:=aA r8;have ST8:=aA (ST7.out.ext hx8);obtain⟨ts,h1,h2⟩:=ST8.out.tabs;rw[TL.out]at h1;obtain⟨tq,htq⟩: ∃q,ts[k]? =some q:=⟨_,zG (by rw[h2.1,TL.out];exact hlt2)⟩;have d0:=(jU h1 htq).1;have d1:=(jU h1 htq).2;have f0:=oG h1 (k*2);have f1:=oG h1 (k*2+1);have dz:=(aF h1 (k:=p.tb) rfl).2;clear o8 r8 x8 hx8 h1 h2 htq;go_wp2_with fail;refine hK.out _ _ (S8.out) (fun hK0=> ?_);clear hK K;try simp only[zz])
   iterate 4 (refine SeqH.fr2 ?_;try simp only[zz])
   (refine aP ?_;intro K hK;go_simp;refine hK.out _ _ (CellsAt.touch (sP w8 p.tb k _ _) (fun q hq h=>(by simp only[List.mem_cons,List.not_mem_nil,or_false]at hq;rcases hq with rfl|rfl|rfl|rfl|rfl|rfl|rfl|rfl<;>(simp only at h;omega))) S8.out) (fun hK0=> ?_);clear hK K;try simp only[zz])
   refine SeqH.done ?_
   obtain⟨w9,hw9⟩: ∃z,z=(w8.setCell ⟨p.tb,k*2,none⟩ (.slice a81 (dK W H s l (k:Int)).1.length c81)).setCell ⟨p.tb,k*2+1,none⟩ (.slice a82 (dK W H s l (k:Int)).2.length c82):=⟨_,rfl⟩
   rw[←hw9]
   have z78:=X8.out.size
   have STW:=(ST8.out.widen (R':=fun q=>R2 q∨(w7.heap.size≤q∧q<w8.heap.size)) (fun q hq=> .inl hq) (fun q hq=>hq.elim (fun h=>ST8.out.lt q h) (fun h=>h.2)) (fun q hq hf=>hq.elim (fun h=>ST8.out.apart q h hf) (fun h=>by have:=ST7.out.foot hf;omega)))
   have ST9:=aA (show Stand w9 p (fun q=>R2 q∨(w7.heap.size≤q∧q<w8.heap.size)) W H s l G1 (T2.set k (dK W H s l (k:Int))) by
    rw[hw9]
    exact STW.setTab (q:=((a81,(dK W H s l (k:Int)).1.length,c81),(a82,(dK W H s l (k:Int)).2.length,c82))) (by rw[TL.out];exact hlt2) ⟨⟨O8.out.lower (Nat.zero_le _),fun q hq=> .inr (by have:=aF O8.out hq;simpa using this)⟩,RowsR.of_at R8.out (fun q h1 h2=> .inr ⟨by simpa using h1,h2⟩)⟩)
   have T9:=aA (show Touch (fun j=>j=p.tb) w8 w9 by rw[hw9];exact sP w8 p.tb k _ _)
   have hz9:=T9.out.size
   have OV9:=aA (Own.touch (OV7.out.ext X8.out) T9.out (fun q hq e=>by have:=(aF OV7.out hq).1;omega))
   have OR9:=aA (show ∀q,u15.ownBlock=some q→ ¬(R2 q∨(w7.heap.size≤q∧q<w8.heap.size)) from fun q hq h=>h.elim (OR.out q hq) (fun h=>by have:=(aF OV7.out hq).2;omega))
   have TQ9:=aA ((TQ7.out.trans (Touch.of_ext X8.out)).trans T9.out)
   have HLt:=aA (aI7 W H s l tu T k)
   clear hw9 STW d0 d1 f0 f1 dz hK0 S8 O8 R8 ST8 B7 S7
   go_wp2_with (at_builtin;refine dD intE aFa rfl _ _ rfl w5.heap.size _ _ (gY W H s l tu T k) rfl OV9.out (k:Int) _ _ rfl _ rfl rfl (by have:=HLt.out;omega) (by have:=HLt.out;omega) (by omega) ?_;intro g10 c10 w10 o10 t10 l10;have O10:=aA o10;have T10:=aA t10;have L10:=aA l10;clear o10 t10 l10)
   go_roundw
   case rel=>
    exact⟨k+1,_,_,by omega,by go_num,ST9.out.touch T10.out (fun q hq e=>by have:=(aF OV9.out e).1;have:=ST9.out.foot hq;rcases hq with rfl|rfl|rfl<;>omega) (fun q hq e=>OR9.out q e hq),
     ⟨by rw[List.length_set];exact TL.out,fun i hi=>by
      rw[List.getElem?_set,TK.out i hi]
      by_cases hik:k=i
      ·subst hik
       rw[if_pos rfl,if_pos (by rw[TL.out];exact hi),if_pos (by omega)]
       unfold zQ
       rw[if_pos HSB.out]
      rw[if_neg hik]
      by_cases h2:i<k
      ·rw[if_pos h2,if_pos (by omega)]
      rw[if_neg h2,if_neg (by omega)]⟩,
     by rw[aI8 HSB.out];have h:=O10.out;rw[show(gY W H s l tu T k).length+1=(gY W H s l tu T k++[(k:Int)]).length by simp]at h;simpa using h,
     (fun q hq hR=>by
      cases hq
      rcases L10.out with h|h
      ·exact OR9.out _ h hR
      have h2:=ST9.out.lt _ hR;simp only at h2;omega),
     TQ9.out.after T10.out (fun q hq e=>by have:=(aF OV9.out e).1;omega),fun q hq=>hq.elim (fun h=>RQ.out q h) (fun h=> .inr (by have:=TT5.out.size;omega))⟩
   simp[intOf];omega
 obtain rfl:N=k:=by omega
 go_wp2
 obtain⟨ao,co,rfl⟩:=OV.out.slice
 go_ret
 exact⟨_,R2,G1,T2,rfl,by rw[HTN.out];exact OV.out.lower (by have:=HF.out;have:=X2.out.size;have:=TT5.out.size;omega),ST2.out,GF.out,(fun i hi=>by have h:=TK.out i (by rw[←HTN.out];exact hi);rwa [if_pos (by rw[←HTN.out];exact hi)]at h),
  ((Touch.of_ext X2.out).trans (TT5.out.mono (fun j _ e=> .inr (.inl e)))).trans (TQ.out.mono (fun j _ e=> .inr (.inr e))),fun q hq=>(RQ.out q hq).imp id (fun h=>by have:=HZ2.out;have:=HF.out;omega)⟩
end Go.Proofs.YtaellcgglldjaaaGreat

namespace Go.Proofs.YtaellcgglldjaaaGreat
open Go.RowKit
theorem iW {W H:Int} {l:List Int} (hl:(l.length:Int)=W*H) {c:aB} (hc:inB W H c.1 c.2=true):aC W c<l.length:=by
 have c1:=inB_true.1 hc
 have h1:=jO (W:=W) (H:=H) (x:=c.1) (y:=c.2) (by omega) (by omega) (by omega) (by omega)
 have h2:((aC W (c.1,c.2):Nat):Int)=c.2*W+c.1:=bT (by omega) (by omega) (by omega)
 have h3:aC W c=aC W (c.1,c.2):=rfl
 omega
end Go.Proofs.YtaellcgglldjaaaGreat

namespace Go.Proofs.YtaellcgglldjaaaGreat

def jR (G:Net) (far:Nat→Int) (v:Nat):Option Nat:=(G.adj v).find? fun u=>decide (far u=far v-G.cost v)
inductive BackP (G:Net) (far:Nat→Int):Nat→List Nat→Prop where
 |done {v:Nat}:far v=0→BackP G far v [v]
 |step {v u:Nat} {l:List Nat}:0<far v→jR G far v=some u→BackP G far u l→BackP G far v (v::l)
section
variable {G:Net} {s:Nat} {far:Nat→Int}
theorem qH (F:IsFar G s far) {v:Nat} (hv:far v<aJ) (h0:0<far v): ∃u,jR G far v=some u:=by
 have ho:=F.open_ hv
 have hs:v≠s:=fun e=>by subst e;have:=F.start ho;omega
 obtain⟨u,hu,_,he⟩:=F.from_ v ho hs hv
 cases h:jR G far v with
 |some u=>exact⟨u,rfl⟩
 |none=>
  unfold jR at h
  rw[List.find?_eq_none]at h
  have:=h u hu
  simp at this
  omega
theorem qI {v u:Nat} (h:jR G far v=some u):u∈G.adj v∧far u+G.cost v=far v:=by
 unfold jR at h
 have h1:=List.mem_of_find?_eq_some h
 have h2:=List.find?_some h
 simp at h2
 exact⟨h1,by omega⟩
theorem iY (F:IsFar G s far) {v u:Nat} (hv:far v<aJ) (h:jR G far v=some u):far u<far v∧far u<aJ∧G.op u=true:=by
 have h2:=(qI h).2
 have:=G.pos v (F.open_ hv)
 exact⟨by omega,by omega,F.open_ (by omega)⟩
theorem aCg (F:IsFar G s far): ∀(k:Nat) (v:Nat),far v=(k:Int)→far v<aJ→ ∃l,BackP G far v l:=by
 intro k
 induction k using Nat.strongRecOn with
 |_ k ih=>
  intro v hv hf
  by_cases h0:far v=0
  ·exact⟨_, .done h0⟩
  have hn:=F.nn v
  obtain⟨u,hu⟩:=qH F hf (by omega)
  have hl:=iY F hf hu
  have hnu:=F.nn u
  obtain⟨l,hl2⟩:=ih (far u).toNat (by omega) u (by omega) hl.2.1
  exact⟨_, .step (by omega) hu hl2⟩
theorem BackP.head {v:Nat} {l:List Nat} (h:BackP G far v l): ∃r,l=v::r:=by cases h<;>exact⟨_,rfl⟩
theorem BackP.all (F:IsFar G s far) {v:Nat} {l:List Nat} (h:BackP G far v l):far v<aJ→ ∀u,u∈l→far u≤far v∧far u<aJ∧Way G u v (far v-far u):=by
 induction h with
 |done h0=>
  intro hv u hu
  simp only[List.mem_singleton]at hu
  subst hu
  exact⟨Int.le_refl _,hv,(Way.start (F.open_ hv)).cast (by omega)⟩
 | @step v u l h0 hn hb ih=>
  intro hv w hw
  rcases List.mem_cons.1 hw with rfl|hw
  ·exact⟨Int.le_refl _,hv,(Way.start (F.open_ hv)).cast (by omega)⟩
  have hl:=iY F hv hn
  have hs:=qI hn
  obtain⟨i1,i2,i3⟩:=ih hl.2.1 w hw
  exact⟨by omega,i2,(Way.step i3 hs.1 (F.open_ hv)).cast (by omega)⟩
theorem BackP.nodup (F:IsFar G s far) {v:Nat} {l:List Nat} (h:BackP G far v l):far v<aJ→l.Nodup:=by
 induction h with
 |done _=>intro _;simp
 | @step v u l h0 hn hb ih=>
  intro hv
  have hl:=iY F hv hn
  refine List.nodup_cons.2 ⟨fun hm=> ?_,ih hl.2.1⟩
  have:=(hb.all F hl.2.1 v hm).1
  omega
theorem BackP.few (F:IsFar G s far) {v:Nat} {l:List Nat} (h:BackP G far v l) (hv:far v<aJ):l.length≤G.n:=
 fR (h.nodup F hv) fun u hu=>G.lt u (F.open_ (h.all F hv u hu).2.1)
theorem BackP.last (F:IsFar G s far) {v:Nat} {l:List Nat} (h:BackP G far v l):far v<aJ→l.getLast? =some s:=by
 induction h with
 | @done v h0=>
  intro hv
  have ho:=F.open_ hv
  by_cases e:v=s
  ·simp[e]
  obtain⟨u,_,_,he⟩:=F.from_ v ho e hv
  have:=G.pos v ho
  have:=F.nn u
  omega
 | @step v u l h0 hn hb ih=>
  intro hv
  obtain⟨r,hr⟩:=hb.head
  rw[hr]at ih⊢
  exact ih (iY F hv hn).2.1
theorem BackP.one {v:Nat} {l m:List Nat} (h:BackP G far v l):BackP G far v m→l=m:=by
 intro k
 induction h generalizing m with
 |done h0=>cases k with
  |done _=>rfl
  |step h1 _ _=>omega
 |step h0 hn hb ih=>cases k with
  |done h1=>omega
  |step h1 hn2 hb2=>
   rw[hn]at hn2
   cases hn2
   rw[ih hb2]
end
end Go.Proofs.YtaellcgglldjaaaGreat

namespace Go.Proofs.YtaellcgglldjaaaGreat

theorem vP {α:Type} {p q:α→Bool}: ∀{l:List α},(∀a∈l,p a=true→q a=true)→(∃a∈l,q a=true∧p a=false)→l.countP p<l.countP q
 |[],_,⟨a,h,_⟩=>by cases h
 |b::l,hpq,⟨a,ha,hq,hp⟩=>by
  rw[List.countP_cons,List.countP_cons]
  have hmono:l.countP p≤l.countP q:=List.countP_mono_left fun x hx=>hpq x (List.mem_cons_of_mem _ hx)
  by_cases hab:a=b
  ·subst hab
   rw[hq,hp];simp;omega
  have hal:a∈l:=by
   rcases List.mem_cons.1 ha with h|h
   ·exact absurd h hab
   exact h
  have:=vP (fun x hx=>hpq x (List.mem_cons_of_mem _ hx)) ⟨a,hal,hq,hp⟩
  have hb:=hpq b List.mem_cons_self
  cases h:p b
  ·split<;>split<;>simp_all<;>omega
  rw[hb h];simp;omega
theorem IsFar.low {G:Net} {s:Nat} {f:Nat→Int} (hf:IsFar G s f): ∀(k:Nat) (v:Nat),f v=(k:Int)→f v<aJ→f v≤65535*(((List.range G.n).countP (fun u=>decide (f u<f v)):Nat):Int):=by
 intro k
 induction k using Nat.strongRecOn with
 |_ k ih=>
  intro v hv hk
  have ho:=hf.open_ hk
  by_cases hs:v=s
  ·subst hs
   rw[hf.start ho]
   omega
  obtain⟨u,hu,huo,he⟩:=hf.from_ v ho hs hk
  have hc:=G.pos v ho
  have ht:=G.top v ho
  have hn:=hf.nn u
  have h1:=ih (f u).toNat (by omega) u (by omega) (by omega)
  have h2:=vP (l:=List.range G.n) (p:=fun x=>decide (f x<f u)) (q:=fun x=>decide (f x<f v)) (fun x _ hx=>by simp at hx⊢;omega) ⟨u,List.mem_range.2 (G.lt u huo),by simp;omega,by simp⟩
  omega
theorem aCr {G:Net} {s:Nat} {f:Nat→Int} (hf:IsFar G s f):fT G f:=fun v hv=>by
 have h1:=hf.low (f v).toNat v (by have:=hf.nn v;omega) hv
 have h2:=List.countP_le_length (p:=fun u=>decide (f u<f v)) (l:=List.range G.n)
 rw[List.length_range]at h2
 omega
end Go.Proofs.YtaellcgglldjaaaGreat

