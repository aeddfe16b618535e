/- Part of a proof: HierO. -/
import Derived.Test.YtaellcgglldjaaaGreatHierFindsQ41
import Derived.Test.YtaellcgglldjaaaGreatHierFindsQ31
import Derived.Test.YtaellcgglldjaaaGreatHierFindsQ42
import Derived.Test.YtaellcgglldjaaaGreatHierFindsQ43
set_option linter.all false
set_option linter.unusedVariables false
set_option linter.unusedSimpArgs false
namespace Go.Proofs.YtaellcgglldjaaaGreat
open Go.RowKit
theorem aDk {W H s:Int} {l:List Int} {a c:aB} (ha:inB W H a.1 a.2=true) (hc:inB W H c.1 c.2=true) (L:fE W H s (ofN W s a.1 a.2) l) (hd:cL L a (aC W c)<aJ) {q:List Nat} (hq:BackP (aE L) (cL L a) (aC W c) q):
  (q.map (aG W)).reverse=a::(q.reverse.map (aG W)).drop 1∧((q.map (aG W)).reverse).getLast? =some c∧q.length≤l.length:=by
 have hlast:=hq.last (eY L a) hd
 have hfew:=hq.few (eY L a) hd
 rw[aD5 L]at hfew
 obtain⟨r,rfl⟩:=hq.head
 refine⟨?_,?_,hfew⟩
 ·rw[←List.map_reverse]
  have h1:(aC W c::r).reverse.head? =some (aC W a):=by rw[List.head?_reverse];exact hlast
  cases h2:(aC W c::r).reverse with
  |nil=>rw[h2]at h1;cases h1
  |cons x t=>
   rw[h2]at h1
   simp only[List.head?_cons,Option.some.injEq]at h1
   subst h1
   rw[List.map_cons,bV ha]
   rfl
 rw[List.getLast?_reverse,List.map_cons,List.head?_cons,bV hc]
section
variable {w0 w:World} {sb lb h mg mc:Nat} {p:Spot} {R0:Nat→Prop} {W H s:Int} {l:List Int} {fa:Option Addr} {fc:Nat} {ga:Option Addr} {gc:Nat} {f t:aB} {S:Nat→Prop} {A:AS}
theorem aJa (L:HLand w lb p R0 W H s l fa fc ga gc f t) (hl:l.length≤150) (hsl:w.cell? ⟨sb,0,none⟩=some (.pointer (some ⟨lb,0,none⟩))) (hsb:sb<w.heap.size) {a c:aB} (ha:inB W H a.1 a.2=true) {y:Int} (hleg:(c,y)∈cB W H s l (aD W H s l) f t a) (x:Int):
  Calls Tryz.prog 150 #[.pointer (some ⟨sb,0,none⟩),cD a c x] w fun e w'=> ∃v,e= .returned v∧Ext w w'∧Own cellE w' w.heap.size 28 v (a::cS W H s l a c)∧(a::cS W H s l a c).getLast? =some c∧(cS W H s l a c).length≤150:=by
 have g:=L.good
 obtain⟨hn,_,_,_,hcase⟩:=kY g hl ha hleg
 have hc:=dJ g hn
 simp only at hc
 rcases hcase with⟨ho,hy,hd⟩|⟨ho,_⟩
 ·simp only at ho hd
  obtain⟨D,hD⟩:=qV g ha
  rw[hD]at hd
  have hdl:cL D a (aC W c)<aJ:=by have:=(eY D a).le (aC W c);omega
  refine(aLc L hsl hsb a c x ha hc ho D hdl).mono ?_
  rintro e w' ⟨v,q,rfl,x1,hb,o1⟩
  obtain⟨b1,b2,b3⟩:=aDk ha hc D hdl hb
  have hw:=vC ho D hb
  rw[←hw]at b1
  rw[b1]at o1 b2
  refine⟨v,rfl,x1,o1,b2,?_⟩
  have hlen:=congrArg List.length b1
  simp at hlen
  omega
 simp only at ho
 refine(aGk L hsl hsb a c x ha hc (fun e=>ho e.symm)).mono ?_
 rintro e w' ⟨v,rfl,x1,o1⟩
 rw[nI ho]
 exact⟨v,rfl,x1,o1,by simp,by simp⟩
set_option maxRecDepth 100000 in
set_option maxHeartbeats 8000000 in
theorem aDz (L:HLand w0 lb p R0 W H s l fa fc ga gc f t) (hl:l.length≤150) (g:Good W H s l) (hx0:Ext w0 w) (m:HMem w sb lb h mg mc W l.length S A) (I:LInv (hGr g hl f t) (aC W f) A) {v:Nat} {ch:List Nat} (hv:A.st v≠0) (C:Chain A.came v ch) (hnd:ch.length≤150):
  Calls Tryz.prog 90 #[.pointer (some ⟨sb,0,none⟩), .agg #[.int .i64 (vx W v), .int .i64 (vy W v)]] w fun e w'=> ∃r,e= .returned r∧Ext w w'∧Own cellE w' w.heap.size 28 r (eB W H s l f ch):=by
 have hfi:=bV L.inF
 have HMF:=aA L.inF
 obtain⟨N2,cf,hN2,hMc,hCO⟩:=m.cm
 have HNB:=aA (fun(w':World) (x:Ext w w') (u:Nat) (hu:u<l.length)=>pC (L.ext (hx0.trans x)) (qE g hu).1)
 have HLB:=aA (fun(w':World) (x:Ext w w')=>(L.ext (hx0.trans x)).blk)
 have HWY:=aA (fun(w':World) (x:Ext w w') (h1:w'.cell? ⟨sb,0,none⟩=some (.pointer (some ⟨lb,0,none⟩))) (h2:sb<w'.heap.size) (a c:aB) (ha:inB W H a.1 a.2=true) (y:Int) (hleg:(c,y)∈cB W H s l (aD W H s l) f t a) (x':Int)=>aJa (L.ext (hx0.trans x)) hl h1 h2 ha hleg x')
 have HSB:=aA m.sea
 have HMC:=aA hMc
 have HCO:=aA hCO
 have HI:=aA I
 have HG:=aA g
 have HLT:=aA (fun u (hu:A.st u≠0)=>(show u<l.length from(hGr g hl f t).lt u (I.op u hu)))
 have HLG:=aA (fun(u v':Nat) (x:Int) (hu:A.st u≠0) (h:(v',x)∈(hGr g hl f t).legs u)=>(show ∃c y,c∈aN W H (aD W H s l) f t∧aC W c=v'∧(c,y)∈cB W H s l (aD W H s l) f t (aG W u) from by
  have h':(v',x)∈iI W H s l (aD W H s l) f t u:=h
  unfold iI at h'
  obtain⟨q,hq,he⟩:=List.mem_map.1 h'
  have hun:=(hGr g hl f t).lt u (I.op u hu)
  have hok:=kY g hl (qE g hun).1 hq
  injection he with h1 h2
  exact⟨q.1,q.2,hok.1,h1,hq⟩))
 have HC:=aA C
 have HV:=aA hv
 have hll:=g.len
 unfold eJ at HLB
 obtain⟨nl,hnl⟩: ∃z,l.length=z:=⟨_,rfl⟩
 obtain⟨nm,hnm⟩: ∃z,(aD W H s l).length=z:=⟨_,rfl⟩
 obtain⟨pb,hpb⟩: ∃z,p.b=z:=⟨_,rfl⟩
 rw[hnl,hnm,hpb]at HLB
 obtain⟨fx,fy⟩:=f
 simp only at HLB
 clear L m I C hv hMc hCO hN2 hx0 hnl hnm hpb
 obtain⟨X0,hX0⟩: ∃z,vx W v=z:=⟨_,rfl⟩
 obtain⟨Y0,hY0⟩: ∃z,vy W v=z:=⟨_,rfl⟩
 have HV0:=aA (show aG W v=(X0,Y0) by unfold aG;rw[hX0,hY0])
 rw[hX0,hY0]
 clear hX0 hY0
 go_enter Tryz.func90,Tryz.ntmps90
 go_upto_region 1 with(fail)
 obtain⟨w1,hw1⟩: ∃z,z=w.alloc (.cells #[.int .i64 X0, .int .i64 Y0] 28):=⟨_,rfl⟩
 have X1:=aA (show Ext w w1 by rw[hw1];exact(Ext.refl _).alloc _)
 have B1:=aA (show Blk w1 w.heap.size 28 #[.int .i64 X0, .int .i64 Y0] by rw[hw1];exact Blk.new_ rfl)
 have hz1:w1.heap.size=w.heap.size+1:=by rw[hw1];simp
 have HZ1:=aA hz1
 rw[←hw1]
 clear hw1 hz1
 obtain⟨cb,hcb⟩: ∃z,w.heap.size=z:=⟨_,rfl⟩
 have HCB:=aA hcb
 rw[hcb]at B1⊢
 clear hcb
 have c0:=B1.out.at 0 rfl;have c1:=B1.out.at 1 rfl;have cz:=B1.out.lt
 go_wp2_with fail
 obtain⟨w2,hw2⟩: ∃z,z=w1.alloc (.cells #[.int .i64 X0, .int .i64 Y0] 28):=⟨_,rfl⟩
 have X2:=aA (show Ext w1 w2 by rw[hw2];exact(Ext.refl _).alloc _)
 have O2:=aA (show Own cellE w2 w1.heap.size 28 (.slice (some ⟨w1.heap.size,0,none⟩) 1 1) [aG W v] by
  rw[hw2,HV0.out]
  exact⟨by simp[cellE], .inr ⟨w1.heap.size,1, #[.int .i64 X0, .int .i64 Y0],rfl,Nat.le_refl _,heap_alloc_new w1 _,by simp,by decide,by simp[cellE],by simp[cellE]⟩⟩)
 have B2:=aA (B1.out.ext X2.out)
 rw[←hw2]
 clear hw2 c0 c1 cz B1
 go_loopg [5] ch.length (fun gk ov wr=> ∃(u:Nat) (rest:List Nat) (acc:List aB),gk=rest.length∧Chain A.came u rest∧A.st u≠0∧Own cellE wr w1.heap.size 28 ov (aG W u::acc)∧acc.length+rest.length*200≤40000∧Blk wr cb 28 #[.int .i64 (vx W u), .int .i64 (vy W u)]∧Ext w wr∧w1.heap.size≤wr.heap.size∧fH (fun u v=>cS W H s l (aG W u) (aG W v)) acc rest=fH (fun u v=>cS W H s l (aG W u) (aG W v)) [] ch)
 case atStart=>exact⟨v,ch,[],rfl,HC.out,HV.out,O2.out,by simp;omega,(by have h:=B2.out;have e:=HV0.out;unfold aG at e;injection e with e1 e2;rw[e1,e2];exact h),X1.out.trans X2.out,X2.out.size,rfl⟩
 obtain⟨u,rest,acc,rfl,hch,hu,ho,hbd,hb,hx,hz,hp⟩:=hrel
 have OR:=aA ho
 have XR:=aA hx
 have BR:=aA hb
 have HU:=aA hu
 have HBD:=aA hbd
 have HP:=aA hp
 have HZ:=aA hz
 have hun:=HLT.out u hu
 have SR:=aA (HSB.out.ext hx)
 have LR:=aA (HLB.out wr hx)
 have hcin:=qE HG.out hun
 obtain⟨X,hX⟩: ∃z,vx W u=z:=⟨_,rfl⟩
 obtain⟨Y,hY⟩: ∃z,vy W u=z:=⟨_,rfl⟩
 have hcu:aG W u=(X,Y):=by unfold aG;rw[hX,hY]
 rw[hX,hY]at BR
 rw[hcu]at OR
 have HCU:=aA hcu
 have HNU:=aA (HNB.out wr hx u hun)
 rw[hcin.2,hcu]at HNU
 simp only at HNU
 have HEQ:=fun(w:World)=>bC (X,Y) (fx,fy) w
 simp only at HEQ
 rw[bB]at HEQ
 have hov:=OR.out.pos (by simp)
 obtain⟨og,oc,rfl,hog1,hog2⟩:=hov
 obtain⟨no,hno⟩: ∃z,((X,Y)::acc).length=z:=⟨_,rfl⟩
 have HNO:=aA hno
 have hno2:acc.length+1=no:=by rw[←hno];rfl
 rw[hno]at OR⊢
 clear ho hx hb hu hp hz hX hY hcu hno
 have s0:=SR.out.at 0 rfl;have s1:=SR.out.at 1 rfl;have s2:=SR.out.at 2 rfl;have s3:=SR.out.at 3 rfl;have sz:=SR.out.lt
 have b0:=LR.out.at 0 rfl;have b1:=LR.out.at 1 rfl;have b2:=LR.out.at 2 rfl;have b3:=LR.out.at 3 rfl;have b4:=LR.out.at 4 rfl;have b5:=LR.out.at 5 rfl;have b6:=LR.out.at 6 rfl;have b7:=LR.out.at 7 rfl;have b8:=LR.out.at 8 rfl;have b9:=LR.out.at 9 rfl;have b10:=LR.out.at 10 rfl;have b11:=LR.out.at 11 rfl;have bz:=LR.out.lt
 have c0:=BR.out.at 0 rfl;have c1:=BR.out.at 1 rfl;have cz:=BR.out.lt
 go_upto_region 2 with(fail)
 by_cases hs:u=aC W (fx,fy)
 ·have hcf:(X,Y)=(fx,fy):=by rw[←HCU.out,hs];exact hfi
  have hd:decide ((X,Y)=(fx,fy))=true:=decide_eq_true hcf
  rw[hd]at HEQ
  have hrest:rest=[u]:=by
   cases hch with
   |stop _=>rfl
   |go h1 _=>rw[hs,HI.out.sc]at h1;omega
  have HFIN:Hid ((X,Y)::acc=eB W H s l (fx,fy) ch):=aA (by
   unfold eB
   rw[←HP.out,hrest,hcf]
   rfl)
  clear hs hcf hd hrest hch
  refine aS wr [(0,true),(1,true),(2,true),(3,true),(4,true),(5,true),(6,true),(7,true),(8,true)] (fun hK0=> ?_)
  iterate 9 (refine SeqH.fr1 ?_;try simp only[zz])
  refine SeqH.done ?_
  have XE:=aA hK0.2
  clear hK0
  go_wp2_with fail
  go_ret
  exact⟨_,rfl,XR.out.trans XE.out,by rw[←HFIN.out];exact(OR.out.ext XE.out).lower (by have:=HZ1.out;omega)⟩
 have hcf: ¬(X,Y)=(fx,fy):=fun e=>hs (by rw[←hcin.2,HCU.out,e])
 have hd:decide ((X,Y)=(fx,fy))=false:=decide_eq_false hcf
 rw[hd]at HEQ
 obtain⟨u2,y,k1,k2,k3,k4⟩:=HI.out.back u HU.out hs
 obtain⟨r2,hrest,hch2⟩: ∃r2,rest=u::r2∧Chain A.came u2 r2:=by
  cases hch with
  |stop h=>omega
  | @go _ u3 l2 h1 h2=>
   have:u3=u2:=by omega
   subst this
   exact⟨l2,rfl,h2⟩
 obtain⟨c',y',hcn,hci,hlg⟩:=HLG.out u2 u y (by omega) k3
 have hcc:c'=(X,Y):=by rw[←HCU.out,←hci];exact(bV (dJ HG.out hcn)).symm
 subst hcc
 obtain⟨a',x',hcf1,hcf2⟩:=HCO.out.2 u HU.out
 have ha':=hcf2 u2 k1
 subst ha'
 rw[HCU.out]at hcf1
 have hun2:=HLT.out u2 (by omega)
 have hin2:=qE HG.out hun2
 have hFT:bN .i64 (u:Int):=dG (by omega)
 have HGT:=aA (fun(w':World) (x:Ext wr w')=>(HMC.out.ext (XR.out.trans x)).get hFT hcf1)
 have HWW:=aA (fun(w':World) (x:Ext w w') (h1:w'.cell? ⟨sb,0,none⟩=some (.pointer (some ⟨lb,0,none⟩))) (h2:sb<w'.heap.size)=>HWY.out w' x h1 h2 (aG W u2) (X,Y) hin2.1 y' hlg x')
 obtain⟨X2',hX2⟩: ∃z,vx W u2=z:=⟨_,rfl⟩
 obtain⟨Y2',hY2⟩: ∃z,vy W u2=z:=⟨_,rfl⟩
 have hc2:aG W u2=(X2',Y2'):=by unfold aG;rw[hX2,hY2]
 have HU2:=aA (And.intro hX2 hY2)
 have HC2:=aA hc2
 rw[hc2]at HGT HWW
 unfold cD at HGT HWW
 simp only at HGT HWW
 obtain⟨wy,hwy⟩: ∃z,cS W H s l (X2',Y2') (X,Y)=z:=⟨_,rfl⟩
 rw[hwy]at HWW
 have HPT:Hid (fH (fun u v=>cS W H s l (aG W u) (aG W v)) (wy++acc) r2=fH (fun u v=>cS W H s l (aG W u) (aG W v)) [] ch):=aA (by
  rw[←HP.out,hrest]
  obtain⟨r3,hr3⟩: ∃r3,r2=u2::r3:=by cases hch2<;>exact⟨_,rfl⟩
  rw[hr3]
  show _=fH _ (cS W H s l (aG W u2) (aG W u)++acc) (u2::r3)
  rw[hc2,HCU.out,hwy])
 have HCH2:=aA hch2
 have HST2:=aA (show A.st u2≠0 by omega)
 have HRL:=aA (show rest.length=r2.length+1 by rw[hrest];rfl)
 clear hcf hs hd k1 k2 k3 k4 hch hrest hch2 hcn hci hlg hcf1 hcf2 hin2 hFT hX2 hY2 hc2 hwy
 refine aS wr [(0,true),(1,true),(2,true),(3,true),(4,true),(5,true),(6,true),(7,true),(8,true)] (fun hK0=> ?_)
 iterate 9 (refine SeqH.fr1 ?_;try simp only[zz])
 refine SeqH.done ?_
 have XE:=aA hK0.2
 clear hK0
 go_upto_region 3 with(fail)
 obtain⟨wd,hwd⟩: ∃z,z=wr.drew:=⟨_,rfl⟩
 have XD:=aA (show Ext wr wd by rw[hwd];exact(Ext.refl _).drew)
 rw[←hwd]
 clear hwd XE
 have SD:=aA (SR.out.ext XD.out)
 have BD:=aA (BR.out.ext XD.out)
 have OD:=aA (OR.out.ext XD.out)
 have zd:=XD.out.size
 have HND:=aA (fun(w':World) (x:Ext wd w')=>(HNB.out w' (XR.out.trans (XD.out.trans x)) u hun))
 have hciv:=hcin.2
 rw[hciv,HCU.out]at HND
 simp only at HND
 clear s0 s1 s2 s3 sz b0 b1 b2 b3 b4 b5 b6 b7 b8 b9 b10 b11 bz c0 c1 cz SR LR BR HNU
 have s0:=SD.out.at 0 rfl;have s1:=SD.out.at 1 rfl;have s2:=SD.out.at 2 rfl;have s3:=SD.out.at 3 rfl;have sz:=SD.out.lt
 have c0:=BD.out.at 0 rfl;have c1:=BD.out.at 1 rfl;have cz:=BD.out.lt
 go_cut [6] (fun s6 wx=> ∃xb,s6= .pointer (some ⟨xb,0,none⟩)∧Blk wx xb 56 #[.int .i64 X2', .int .i64 Y2', .int .i64 X, .int .i64 Y, .int .u64 x']∧wd.heap.size≤xb∧Ext wd wx)
 case first=>
  have hlk:=HGT.out wd XD.out
  have hlkd:=HGT.out wd.drew (XD.out.drew)
  refine mA (S:=(fun W=>(∀b o,b<wd.heap.size→W.cell? ⟨b,o,none⟩=wd.cell? ⟨b,o,none⟩)∧Ext wd W)) (.take 0 (.take 1 (.take 2 (.take 3 (.take 4 (.take 5 (.take 6 (.take 7 (.take 8 (.step 9 (.step 10 (.step 11 (.step 12 .done .shut) .shut) (.step 11 (.step 10 (.step 12 .done .shut) .shut) .shut)) (.step 11 (.step 9 (.step 10 (.step 12 .done .shut) .shut) .shut) .shut))))))))))) (by kernel_rfl) (by kernel_rfl) (by kernel_rfl) (by decide) (fun _ _ d _ _ h=>by cases d<;>exact h) (by first|with_reducible exact bG _|exact aI z_x) (fun hK0=> ?_)
  iterate 9 (refine SeqT.fr1 ?_;try simp only[zz])
  (apply SeqT.step;(·(simp only[z_0,z_1,z_2];rfl)))
  (intro K hK;go_simp;refine(HND.out _ z_x).mono ?_;rintro e w3 ⟨rfl,hb3⟩;(try replace DT:=aA (DT.out.ext (show Ext _ w3 from z_x)));have hlk3:=HGT.out w3 (XD.out.trans z_x);have zz3:=(show Ext wd w3 from z_x).size;go_wp2_with fail;refine hK.out _ _ (aI z_x) (fun hK0=> ?_);clear hK K;(try simp only[zz]);(try have t0:=DT.out.at 0 rfl);(try have tf0:=DT.out.frozen 0);(try have t1:=DT.out.at 1 rfl);(try have tf1:=DT.out.frozen 1);(try have t2:=DT.out.at 2 rfl);(try have tf2:=DT.out.frozen 2);(try have t3:=DT.out.at 3 rfl);(try have tf3:=DT.out.frozen 3);(try have t4:=DT.out.at 4 rfl);(try have tf4:=DT.out.frozen 4);(try have tz:=DT.out.lt))
  (apply SeqT.step;(·(simp only[z_0,z_1,z_2];rfl)))
  (intro K hK;go_simp;refine hK.out _ _ (aI z_x) (fun hK0=> ?_);clear hK K;(try simp only[zz]))
  (apply SeqT.last;(·(simp only[z_0,z_1,z_2];rfl)))
  (intro K hK;go_simp;refine hK.out _ _ (aI z_x) (fun hK0=> ?_);clear hK K;(try simp only[zz]);(first|refine SeqT.named ?_ (by assumption)|refine SeqT.namedD ?_ (by assumption));intro w4 dt hx4 hz4 hS4;(try simp only[World.size_drew,World.size_alloc]at dt hz4);have DT:=aA dt;have hlk4:=HGT.out w4 (XD.out.trans hS4.2);clear dt hK0;have t0:=DT.out.at 0 rfl;have tf0:=DT.out.frozen 0;have t1:=DT.out.at 1 rfl;have tf1:=DT.out.frozen 1;have t2:=DT.out.at 2 rfl;have tf2:=DT.out.frozen 2;have t3:=DT.out.at 3 rfl;have tf3:=DT.out.frozen 3;have t4:=DT.out.at 4 rfl;have tf4:=DT.out.frozen 4;have tz:=DT.out.lt)
  (apply SeqT.last;(·(simp only[z_0,z_1,z_2];rfl)))
  (intro K hK;go_simp;refine hK.out _ _ (aI z_x) (fun hK0=> ?_);clear hK K;(try simp only[zz]))
  refine SeqT.fin ?_
  rotate_left
  (apply SeqT.last;(·(simp only[z_0,z_1,z_2];rfl)))
  (intro K hK;go_simp;refine hK.out _ _ (aI z_x) (fun hK0=> ?_);clear hK K;(try simp only[zz]);(first|refine SeqT.named ?_ (by assumption)|refine SeqT.namedD ?_ (by assumption));intro w4 dt hx4 hz4 hS4;(try simp only[World.size_drew,World.size_alloc]at dt hz4);have DT:=aA dt;have hlk4:=HGT.out w4 (XD.out.trans hS4.2);clear dt hK0;have t0:=DT.out.at 0 rfl;have tf0:=DT.out.frozen 0;have t1:=DT.out.at 1 rfl;have tf1:=DT.out.frozen 1;have t2:=DT.out.at 2 rfl;have tf2:=DT.out.frozen 2;have t3:=DT.out.at 3 rfl;have tf3:=DT.out.frozen 3;have t4:=DT.out.at 4 rfl;have tf4:=DT.out.frozen 4;have tz:=DT.out.lt)
  (apply SeqT.last;(·(simp only[z_0,z_1,z_2];rfl)))
  (intro K hK;go_simp;refine hK.out _ _ (aI z_x) (fun hK0=> ?_);clear hK K;(try simp only[zz]))
  (apply SeqT.last;(·(simp only[z_0,z_1,z_2];rfl)))
  (intro K hK;go_simp;refine hK.out _ _ (aI z_x) (fun hK0=> ?_);clear hK K;(try simp only[zz]))
  refine SeqT.fin ?_
  rotate_left
  (apply SeqT.last;(·(simp only[z_0,z_1,z_2];rfl)))
  (intro K hK;go_simp;refine hK.out _ _ (aI z_x) (fun hK0=> ?_);clear hK K;(try simp only[zz]);(first|refine SeqT.named ?_ (by assumption)|refine SeqT.namedD ?_ (by assumption));intro w4 dt hx4 hz4 hS4;(try simp only[World.size_drew,World.size_alloc]at dt hz4);have DT:=aA dt;have hlk4:=HGT.out w4 (XD.out.trans hS4.2);clear dt hK0;have t0:=DT.out.at 0 rfl;have tf0:=DT.out.frozen 0;have t1:=DT.out.at 1 rfl;have tf1:=DT.out.frozen 1;have t2:=DT.out.at 2 rfl;have tf2:=DT.out.frozen 2;have t3:=DT.out.at 3 rfl;have tf3:=DT.out.frozen 3;have t4:=DT.out.at 4 rfl;have tf4:=DT.out.frozen 4;have tz:=DT.out.lt)
  (apply SeqT.last;(·(simp only[z_0,z_1,z_2];rfl)))
  (intro K hK;go_simp;refine(HND.out _ z_x).mono ?_;rintro e w3 ⟨rfl,hb3⟩;(try replace DT:=aA (DT.out.ext (show Ext _ w3 from z_x)));have hlk3:=HGT.out w3 (XD.out.trans z_x);have zz3:=(show Ext wd w3 from z_x).size;go_wp2_with fail;refine hK.out _ _ (aI z_x) (fun hK0=> ?_);clear hK K;(try simp only[zz]);(try have t0:=DT.out.at 0 rfl);(try have tf0:=DT.out.frozen 0);(try have t1:=DT.out.at 1 rfl);(try have tf1:=DT.out.frozen 1);(try have t2:=DT.out.at 2 rfl);(try have tf2:=DT.out.frozen 2);(try have t3:=DT.out.at 3 rfl);(try have tf3:=DT.out.frozen 3);(try have t4:=DT.out.at 4 rfl);(try have tf4:=DT.out.frozen 4);(try have tz:=DT.out.lt))
  (apply SeqT.last;(·(simp only[z_0,z_1,z_2];rfl)))
  (intro K hK;go_simp;refine hK.out _ _ (aI z_x) (fun hK0=> ?_);clear hK K;(try simp only[zz]))
  (apply SeqT.last;(·(simp only[z_0,z_1,z_2];rfl)))
  (intro K hK;go_simp;refine hK.out _ _ (aI z_x) (fun hK0=> ?_);clear hK K;(try simp only[zz]))
  refine SeqT.fin ?_
  all_goals
   go_wp2_with fail
   go_meet
   refine⟨_,rfl,?_,?_,z_x⟩
   ·have h:=((((DT.out.set_ 0 (.int .i64 X2')).set_ 1 (.int .i64 Y2')).set_ 2 (.int .i64 X)).set_ 3 (.int .i64 Y)).set_ 4 (.int .u64 x')
    simpa using h
   first|omega|(simp;omega)|simp
 obtain⟨xb,rfl,hxb,hxz,hxw⟩:=hcut
 have XC:=aA (XR.out.trans (XD.out.trans hxw))
 have LB:=aA hxb
 have SC:=aA (SD.out.ext hxw)
 have BC:=aA (BD.out.ext hxw)
 have OC:=aA (OD.out.ext hxw)
 have HW3:=aA (HWW.out wc XC.out (SC.out.at 0 rfl) SC.out.lt)
 have zc:=hxw.size
 have hcbx:cb<wd.heap.size:=cz
 clear hxb hxz hxw s0 s1 s2 s3 sz c0 c1 cz SD BD OD HWW HND HGT
 have q0:=LB.out.at 0 rfl;have q1:=LB.out.at 1 rfl;have q2:=LB.out.at 2 rfl;have q3:=LB.out.at 3 rfl;have q4:=LB.out.at 4 rfl;have qz:=LB.out.lt
 go_wp2_with fail
 refine HW3.out.mono ?_
 rintro e w5 ⟨v5,rfl,x5,o5,hl5,hw5⟩
 obtain⟨g5,c5,rfl,hg51,hg52⟩:=o5.pos (by simp)
 have OE:=aA (OC.out.ext x5)
 have LE:=aA (LB.out.ext x5)
 have BE:=aA (BC.out.ext x5)
 have XE:=aA (XC.out.trans x5)
 have HJ:=aA (aJc o5 OE.out hl5 rfl (by rw[List.length_cons];omega) (by have:=HNO.out;have:=HBD.out;omega))
 have HWL:=aA hw5
 have z5:=x5.size
 clear x5 o5 hl5 q0 q1 q2 q3 q4 qz HW3 hw5
 obtain⟨n5,hn5⟩: ∃z,((X2',Y2')::wy).length=z:=⟨_,rfl⟩
 rw[hn5]at HJ⊢
 clear hn5
 have q0:=LE.out.at 0 rfl;have q1:=LE.out.at 1 rfl;have q2:=LE.out.at 2 rfl;have q3:=LE.out.at 3 rfl;have q4:=LE.out.at 4 rfl;have qz:=LE.out.lt
 go_wp2_with fail
 refine HJ.out.mono ?_
 rintro e w6 ⟨v6,rfl,x6,o6⟩
 have O6:=aA (o6.lower (base':=w1.heap.size) (by have:=HZ.out;have:=XD.out.size;omega))
 have LG:=aA (LE.out.ext x6)
 have BG:=aA (BE.out.ext x6)
 have XG:=aA (XE.out.trans x6)
 have z6:=x6.size
 have hl6:((X2',Y2')::wy++((X,Y)::acc).drop 1)=aG W u2::(wy++acc):=by rw[HC2.out];rfl
 rw[hl6]at O6
 clear o6 x6 HJ q0 q1 q2 q3 q4 qz hl6
 have q0:=LG.out.at 0 rfl;have q1:=LG.out.at 1 rfl;have q2:=LG.out.at 2 rfl;have q3:=LG.out.at 3 rfl;have q4:=LG.out.at 4 rfl;have qz:=LG.out.lt
 have c0:=BG.out.at 0 rfl;have c1:=BG.out.at 1 rfl;have cz:=BG.out.lt
 have cf0:=BG.out.frozen 0
 have cf1:=BG.out.frozen 1
 obtain⟨a6,c6,rfl⟩: ∃a6 c6,v6= .slice a6 (aG W u2::(wy++acc)).length c6:=O6.out.slice
 have HBW:=aA (show Blk ((w6.setCell ⟨cb,0,none⟩ (.int .i64 X2')).setCell ⟨cb,1,none⟩ (.int .i64 Y2')) cb 28 #[.int .i64 X2', .int .i64 Y2'] by have h:=(BG.out.set_ 0 (.int .i64 X2')).set_ 1 (.int .i64 Y2');simpa using h)
 have tt:Touch (fun k=>k=cb) w6 ((w6.setCell ⟨cb,0,none⟩ (.int .i64 X2')).setCell ⟨cb,1,none⟩ (.int .i64 Y2')):=((Touch.refl (fun k=>k=cb) w6).setCell (p:=⟨cb,0,none⟩) (.inl rfl) _).setCell (p:=⟨cb,1,none⟩) (.inl rfl) _
 have HOW:=aA (O6.out.touch tt (fun k hk e=>by have:=(aF O6.out hk).1;have:=HZ1.out;have:=HCB.out;omega))
 have HXW:=aA ((XG.out.setCell (p:=⟨cb,0,none⟩) (by show w.heap.size≤cb;have:=HCB.out;omega) (.int .i64 X2')).setCell (p:=⟨cb,1,none⟩) (by show w.heap.size≤cb;have:=HCB.out;omega) (.int .i64 Y2'))
 have HZW:=aA (Nat.le_trans (show w1.heap.size≤w6.heap.size by have:=HZ.out;have:=XD.out.size;omega) tt.size)
 clear tt
 obtain⟨n6,hn6⟩: ∃z,(aG W u2::(wy++acc)).length=z:=⟨_,rfl⟩
 rw[hn6]at HOW⊢
 clear hn6
 go_wp2_with fail
 go_roundg r2.length
 case measure=>rw[HRL.out];omega
 refine⟨u2,r2,wy++acc,rfl,HCH2.out,HST2.out,HOW.out,?_,by rw[HU2.out.1,HU2.out.2];exact HBW.out,HXW.out,HZW.out,HPT.out⟩
 have h1:=HBD.out
 have h2:=HRL.out
 have h3:=HWL.out
 rw[List.length_append]
 omega
end
end Go.Proofs.YtaellcgglldjaaaGreat

