/- Part of a proof: PathR LayG HierM. -/
import Derived.Test.YtaellcgglldjaaaGreatHierFindsQ25
import Derived.Test.YtaellcgglldjaaaGreatHierFindsQ21
import Derived.Test.YtaellcgglldjaaaGreatHierFindsQ30
import Derived.Test.YtaellcgglldjaaaGreatHierFindsQ01
import Derived.Shelf.Lays8
import Derived.Test.YtaellcgglldjaaaGreatHierFindsQ24
import Derived.Test.YtaellcgglldjaaaGreatHierFindsQ11
import Derived.Shelf.Spec.SlicesGrow
set_option linter.all false
set_option linter.unusedVariables false
set_option linter.unusedSimpArgs false
namespace Go.Proofs.YtaellcgglldjaaaGreat
open Go.RowKit
def qC (l:List Int) (W bx byy bw bh:Int) (far:Nat→Int) (v:Nat) (d:Nat):Prop:=
 bO bx byy bw bh (vx W v+aU d) (vy W v+aV d)=true∧far (aC W (vx W v+aU d,vy W v+aV d))≠aJ∧far (aC W (vx W v+aU d,vy W v+aV d))+l.getD v 0=far v
section
variable {l:List Int} {W H bx byy bw bh:Int}
theorem uR (L:LandP W H l bx byy bw bh) {s:Nat} {far:Nat→Int} (F:IsFar (aE L) s far) {v:Nat} (hv:far v<aJ): ∀d,(∀j,j<d→ ¬qC l W bx byy bw bh far v j)→((nbC (bD l W bx byy bw bh) (vx W v) (vy W v) d).map (aC W)).find? (fun u=>decide (far u=far v-(aE L).cost v))=none
 |0,_=>rfl
 |d+1,h=>by
  unfold nbC
  rw[List.map_append,List.find?_append,uR L F hv d (fun j hj=>h j (by omega)),Option.none_or]
  split
  ·next ho=>
   simp only[List.map_cons,List.map_nil]
   rw[List.find?_cons_of_neg,List.find?_nil]
   simp only[decide_eq_true_eq]
   intro e
   have hc:(aE L).cost v=l.getD v 0:=rfl
   have hp:=(aE L).pos v (F.open_ hv)
   refine h d (Nat.lt_succ_self d) ⟨(eQ ho).1,?_,?_⟩
   ·omega
   rw[e,hc];omega
  rfl
theorem aMh (L:LandP W H l bx byy bw bh) {s:Nat} {far:Nat→Int} (F:IsFar (aE L) s far) {v:Nat} (hv:far v<aJ) {d:Nat} (hd:d<4) (h: ∀j,j<d→ ¬qC l W bx byy bw bh far v j) (hh:qC l W bx byy bw bh far v d):jR (aE L) far v=some (aC W (vx W v+aU d,vy W v+aV d)):=by
 have hc:(aE L).cost v=l.getD v 0:=rfl
 have ho:bD l W bx byy bw bh (vx W v+aU d) (vy W v+aV d)=true:=by
  have h1:=F.open_ (v:=aC W (vx W v+aU d,vy W v+aV d)) (by have:=hh.2.1;have:=F.le (aC W (vx W v+aU d,vy W v+aV d));omega)
  have h2:opV (bD l W bx byy bw bh) W l.length (aC W (vx W v+aU d,vy W v+aV d))=true:=h1
  rw[L.opV_idx (L.in_ hh.1)]at h2
  exact h2
 have h1:((nbC (bD l W bx byy bw bh) (vx W v) (vy W v) (d+1)).map (aC W)).find? (fun u=>decide (far u=far v-(aE L).cost v))=some (aC W (vx W v+aU d,vy W v+aV d)):=by
  unfold nbC
  rw[List.map_append,List.find?_append,uR L F hv d h,Option.none_or,if_pos ho]
  simp only[List.map_cons,List.map_nil]
  rw[List.find?_cons_of_pos]
  have:=hh.2.2
  simp only[decide_eq_true_eq]
  rw[hc];omega
 have hmono: ∀n,d+1≤n→((nbC (bD l W bx byy bw bh) (vx W v) (vy W v) n).map (aC W)).find? (fun u=>decide (far u=far v-(aE L).cost v))=some (aC W (vx W v+aU d,vy W v+aV d)):=by
  intro n hn
  induction n with
  |zero=>omega
  |succ n ih=>
   by_cases e:d=n
   ·subst e;exact h1
   unfold nbC
   rw[List.map_append,List.find?_append,ih (by omega)]
   rfl
 exact hmono 4 (by omega)
theorem aMg (L:LandP W H l bx byy bw bh) {s:Nat} {far:Nat→Int} (F:IsFar (aE L) s far) {v:Nat} (hv:far v<aJ) (h0:0<far v): ¬ ∀j,j<4→ ¬qC l W bx byy bw bh far v j:=fun h=>by
 obtain⟨u,hu⟩:=qH F hv h0
 have:=uR L F hv 4 h
 have h2:jR (aE L) far v=none:=this
 rw[hu]at h2
 cases h2
end
set_option maxRecDepth 100000 in
set_option maxHeartbeats 4000000 in
theorem aHh {w:World} {W H:Int} {a:Option Addr} {l:List Int} {bx byy bw bh x y:Int} (c:Nat) (he:eA W H l.length bx byy bw bh x y=0) (hr:Row16 w a l) (hu:cV l) {far:Nat→Int} (F:IsFar (aE (bK he hu)) (aC W (x,y)) far) (FL:fT (aE (bK he hu)) far)
  {base g cg:Nat} (fa:FarAt w base g cg far l.length) {t:Nat} (ht:far t<aJ) {p:List Nat} (hp:BackP (aE (bK he hu)) far t p):
  Calls Tryz.prog 92 #[.agg #[.int .i64 W, .int .i64 H, .slice a l.length c], .agg #[.int .i64 bx, .int .i64 byy, .int .i64 bw, .int .i64 bh], .slice (some ⟨g,0,none⟩) l.length cg, .agg #[.int .i64 (vx W t), .int .i64 (vy W t)]] w fun e w'=>
   ∃v,e= .returned v∧Ext w w'∧Own cellE w' w.heap.size 28 v (p.reverse.map (aG W)):=by
 have HLP:=aA (bK he hu)
 have FF:Hid (IsFar (aE HLP.out) (aC W (x,y)) far):=aA F
 have FLo:Hid (fT (aE HLP.out) far):=aA FL
 have HP0:Hid (BackP (aE HLP.out) far t p):=aA hp
 have hpn:p.length≤l.length:=hp.few F ht
 obtain⟨hm,hl,hf,hh⟩:=lookE_ok.1 he
 have ff:=fitsR_true.1 hf
 have wh:=HLP.out.wh
 have hin:=HLP.out.in_ hh
 have hn1:1≤l.length:=by have:=HLP.out.idx_lt hin;omega
 have HU:=aA hu
 have HOI:=aA (fun(v:Nat) (h:far v<aJ)=>(by
  have h1:=FF.out.open_ h
  have h2:opV (bD l W bx byy bw bh) W l.length v=true:=h1
  unfold opV at h2
  simp only[Bool.and_eq_true,decide_eq_true_eq]at h2
  exact⟨h2.1,HLP.out.v_in h2.1,(HLP.out.cost_v v)⟩:v<l.length∧(0≤vx W v∧vx W v<W∧0≤vy W v∧vy W v<H)∧aL l W (vx W v,vy W v)=l.getD v 0))
 have HC:=aA (fun(v:Nat) (w':World) (hr':Row16 w' a l) (h:0≤vx W v∧vx W v<W∧0≤vy W v∧vy W v<H)=>(by have:=fM W H a l c (vx W v) (vy W v) w' hm hl hr' hu h.1 h.2.1 h.2.2.1 h.2.2.2;rw[HLP.out.cost_v v]at this;exact this:Calls Tryz.prog 20 #[.agg #[.int .i64 W, .int .i64 H, .slice a l.length c], .agg #[.int .i64 (vx W v), .int .i64 (vy W v)]] w' fun e w''=>e= .returned (.int .u64 (l.getD v 0))∧Ext w' w''))
 have HR:=aA hr
 have FA:=aA fa
 have hgw:=fa.lt.2
 obtain⟨n,hnn⟩: ∃n,l.length=n:=⟨_,rfl⟩
 have HN:=aA hnn
 rw[hnn]at hn1 wh hpn HOI HC FA⊢
 have HT:=aA ht
 clear hr hm hl hf hh hin hnn F FL hp fa ht
 clear he
 go_enter Tryz.func92,Tryz.ntmps92
 go_wp2_with fail
 obtain⟨w1,hw1⟩: ∃w1,w1=((w.alloc (.cells #[.int .i64 W, .int .i64 H, .slice a n c] 26)).alloc (.cells #[.int .i64 bx, .int .i64 byy, .int .i64 bw, .int .i64 bh] 71)).alloc (.cells #[.int .i64 (vx W t), .int .i64 (vy W t)] 28):=⟨_,rfl⟩
 have hx1:Ext w w1:=by rw[hw1];exact z_x
 have hz1:w1.heap.size=w.heap.size+3:=by rw[hw1];simp
 have B0:Hid (Blk w1 w.heap.size 26 #[.int .i64 W, .int .i64 H, .slice a n c]):=aA (by rw[hw1];exact(Blk.new_ rfl).over.over)
 have B1:Hid (Blk w1 (w.heap.size+1) 71 #[.int .i64 bx, .int .i64 byy, .int .i64 bw, .int .i64 bh]):=aA (by rw[hw1];exact(Blk.new_ (by simp)).over)
 rw[←hw1]
 have OL:Own cellE (w1.alloc (.cells #[.int .i64 (vx W t), .int .i64 (vy W t)] 28)) (w.heap.size+3) 28 (.slice (some ⟨w.heap.size+1+1+1,0,none⟩) 1 1) [aG W t]:=Own.lit1 cellE w1 _ _ _ (aG W t) _ rfl (by rw[hz1]) (by omega)
 have HX1:=aA hx1
 have HOL:=aA OL
 have HW:Hid (∀wr,Below (w.heap.size+3) w1 wr→Row16 wr a l∧Blk wr w.heap.size 26 #[.int .i64 W, .int .i64 H, .slice a n c]∧Blk wr (w.heap.size+1) 71 #[.int .i64 bx, .int .i64 byy, .int .i64 bw, .int .i64 bh]∧Ext w wr∧w.heap.size+3≤wr.heap.size):=aA (fun wr b=>by
  have tt:Touch (fun k=>w.heap.size+3≤k) w1 wr:=Touch.below b (fun k _ hk=>hk)
  have hx:=HX1.out.of_below b (by omega)
  have:=b.size
  exact⟨HR.out.ext hx,B0.out.touch tt (by omega),B1.out.touch tt (by omega),hx,by omega⟩)
 clear hw1 hx1 OL B0 B1 HR
 go_loopw [9,10] (fun ov iv wr=> ∃(pre rest:List Nat) (v:Nat),iv= .int .i64 (pre.length:Int)∧p=pre++rest∧BackP (aE HLP.out) far v rest∧far v<aJ∧Own cellE wr (w.heap.size+3) 28 ov ((pre++[v]).reverse.map (aG W))∧Below (w.heap.size+3) w1 wr) (fun _ iv _=>n-(intOf iv).toNat)
 case atStart=>exact⟨[],p,t,rfl,rfl,HP0.out,HT.out,HOL.out,(Below.refl _ _).alloc (by omega) _⟩
 obtain⟨pre,rest,v,rfl,hpp,hb,hfv,hown,hbel⟩:=hrel
 have BP:=aA hb
 have HPP:=aA hpp
 obtain⟨hvn,hvi,hvc⟩:=HOI.out v hfv
 obtain⟨rr,hrr⟩:=hb.head
 have hkn:pre.length<n:=by rw[hpp,hrr]at hpn;simp at hpn;omega
 have HKN:=aA hkn
 have hko:(pre.length:Int)<(n:Int):=by omega
 have hrev:(pre++[v]).reverse.map (aG W)=aG W v::(pre.reverse.map (aG W)):=by rw[List.reverse_append];rfl
 rw[hrev]at hown
 have hrd:=hown.reads
 obtain⟨ob,oo,oc,rfl,hob,hoc⟩:=aEr hrd (by simp)
 have hlen:(aG W v::(pre.reverse.map (aG W))).length=pre.length+1:=by simp
 rw[hlen]at hown hrd⊢
 have OW:=aA hown
 have RD:=aA hrd
 have o0:=(hoc 0 (aG W v) rfl).1
 have o1:=(hoc 0 (aG W v) rfl).2
 simp only[Nat.zero_mul,Nat.add_zero,aG]at o0 o1
 obtain⟨hrw,hb0,hb1,hxw,hzw⟩:=HW.out _ hbel
 have BL:=aA hbel
 have HXw:=aA hxw
 have B0r:=aA hb0
 have B1r:=aA hb1
 have HRr:=aA hrw
 have fv:=((FA.out.ext hxw).cell hvn).1
 have hfv0:=FF.out.nn v
 have hgr:g<wr.heap.size:=Nat.lt_of_lt_of_le hgw hxw.size
 have m0:=cN (a:=vy W v) (b:=W) (A:=256) (B:=256) (by omega) (by omega) (by omega) (by omega)
 have hui:vy W v*W+vx W v=(v:Int):=by
  have:=bT (W:=W) hvi.1 wh.1 hvi.2.2.1
  rw[gE wh.1 v]at this
  exact this.symm
 have k1:IntKind.i64.wrap (vy W v*W)=vy W v*W:=IntWalk.i64_in _ (by omega)
 have k2:IntKind.i64.wrap (vy W v*W+vx W v)=(v:Int):=by rw[hui];exact IntWalk.i64_in _ (by omega)
 have j1:(v:Int)<(n:Int):=by omega
 have HFV:=aA hfv
 have HVI:=aA hvi
 have HVC:=aA hvc
 have HVN:=aA hvn
 obtain⟨fw,hfw⟩: ∃z,far v=z:=⟨_,rfl⟩
 have HFW:=aA hfw
 rw[hfw]at fv hfv0
 have q0:=B0r.out.at 0 rfl;have q1:=B0r.out.at 1 rfl;have q2:=B0r.out.at 2 rfl;have qz:=B0r.out.lt
 clear hb hpp hrr hkn hrev hlen hoc hbel hxw hb0 hb1 hrw m0 hui hfw hfv hvi hvc hown hrd
 by_cases hz:fw=0
 ·subst hz
  have hr1:rest=[v]:=by
   cases BP.out with
   |done _=>rfl
   |step h0 _ _=>have:=HFW.out;omega
  have RD2:Hid (Own cellE wr (w.heap.size+3) 28 (.slice (some ⟨ob,oo,none⟩) (pre.length+1) oc) (p.reverse.map (aG W))):=aA (by
   have h:=OW.out
   rw[HPP.out,hr1,List.reverse_append]
   exact h)
  clear hr1
  go_wp2_with fail
  go_ret
  exact⟨_,rfl,HXw.out.trans z_x,(RD2.out.ext z_x).lower (by omega)⟩
 have hzb:(fw==0)=false:=by simpa using hz
 have HNZ:=aA hz
 clear hz
 go_wp2_with fail
 obtain⟨w5,hw5⟩: ∃w5,w5=wr.alloc (.cells #[.int .i64 (vx W v), .int .i64 (vy W v)] 28):=⟨_,rfl⟩
 have C5:Hid (Blk w5 wr.heap.size 28 #[.int .i64 (vx W v), .int .i64 (vy W v)]):=aA (by rw[hw5];exact Blk.new_ rfl)
 have hx5:Ext wr w5:=by rw[hw5];exact(Ext.refl _).alloc _
 have HX5:=aA hx5
 rw[←hw5]
 obtain⟨cb,hcb⟩: ∃z,wr.heap.size=z:=⟨_,rfl⟩
 rw[hcb]at C5⊢
 have HCX:=aA (fun(w':World) (hx:Ext wr w')=>HC.out v w' (HRr.out.ext hx) HVI.out)
 have B05:=aA (B0r.out.ext hx5)
 have B15:=aA (B1r.out.ext hx5)
 have FA5:=aA ((FA.out.ext HXw.out).ext hx5)
 clear hw5 hcb hx5 q0 q1 q2 qz o0 o1 k1 k2 hgr B0r B1r hob j1 fv
 go_loopw [9,13] (fun ov dv wd=> ∃d:Nat,d≤4∧dv= .int .i64 d∧ov= .slice (some ⟨ob,oo,none⟩) (pre.length+1) oc∧(∀j,j<d→ ¬qC l W bx byy bw bh far v j)∧Ext w5 wd) (fun _ dv _=>4-(intOf dv).toNat)
 case atStart=>exact⟨0,by omega,rfl,rfl,fun j hj=>absurd hj (Nat.not_lt_zero j),Ext.refl _⟩
 obtain⟨d,hd,rfl,rfl,hno,hext⟩:=hrel
 have NO:=aA hno
 have HXd:=aA hext
 clear hno hext
 by_cases hd4:d<4
 ·have hvi:=HVI.out
  have hsd:=aAn hd4 (vx W v) (vy W v)
  have hdb:=pX d
  have S1:=aA (fun w'=>qJ (vx W v) (vy W v) (d:Int) w' (by omega) (by omega))
  rw[hsd.1,hsd.2]at S1
  have HHD:Hid (qC l W bx byy bw bh far v d↔bO bx byy bw bh (vx W v+aU d) (vy W v+aV d)=true∧far (aC W (vx W v+aU d,vy W v+aV d))≠aJ∧far (aC W (vx W v+aU d,vy W v+aV d))+l.getD v 0=far v):=aA Iff.rfl
  have HNH:=aA (fun hh=>aMh HLP.out FF.out HFV.out hd4 NO.out hh)
  obtain⟨P,hP⟩: ∃z,vx W v+aU d=z:=⟨_,rfl⟩
  obtain⟨Q,hQ⟩: ∃z,vy W v+aV d=z:=⟨_,rfl⟩
  have hPQ: -1≤P∧P≤256∧ -1≤Q∧Q≤256:=by omega
  rw[hP,hQ]at S1 HHD HNH
  have SH:=aA (fun w'=>pE bx byy bw bh P Q w' ff.1 ff.2.1 (by unfold InI;omega) (by unfold InI;omega))
  have CR:=aA (C5.out.ext HXd.out)
  have u0:=CR.out.at 0 rfl;have u1:=CR.out.at 1 rfl;have uz:=CR.out.lt
  clear hsd hdb hP hQ hvi
  go_wp2_with fail
  refine(S1.out _).mono ?_
  rintro e w7 ⟨rfl,hb7⟩
  go_wp2_with fail
  obtain⟨w8,hw8⟩: ∃w8,w8=w7.alloc (.cells #[.int .i64 P, .int .i64 Q] 28):=⟨_,rfl⟩
  have M8:Hid (Blk w8 w7.heap.size 28 #[.int .i64 P, .int .i64 Q]):=aA (by rw[hw8];exact Blk.new_ rfl)
  have hx78:Ext w7 w8:=by rw[hw8];exact(Ext.refl _).alloc _
  have hxr8:Ext wr w8:=Ext.trans z_x hx78
  have hx58:=HXd.out.trans hxr8
  have HX58:=aA hx58
  rw[←hw8]
  obtain⟨mb,hmbe⟩: ∃z,w7.heap.size=z:=⟨_,rfl⟩
  rw[hmbe]at M8⊢
  have FA8:=aA (FA5.out.ext hx58)
  have B08:=aA (B05.out.ext hx58)
  have B18:=aA (B15.out.ext hx58)
  have C8:=aA (C5.out.ext hx58)
  have CC8:=aA (fun(w':World) (hx:Ext w8 w')=>HCX.out w' ((HX5.out.trans hx58).trans hx))
  have HXr8:=aA hxr8
  clear hmbe hw8 hx78 hx58 hb7 u0 u1 uz CR S1 hxr8
  have p0:=B08.out.at 0 rfl;have p1:=B08.out.at 1 rfl;have p2:=B08.out.at 2 rfl;have pz:=B08.out.lt
  have q0:=B18.out.at 0 rfl;have q1:=B18.out.at 1 rfl;have q2:=B18.out.at 2 rfl;have q3:=B18.out.at 3 rfl;have qz:=B18.out.lt
  have u0:=C8.out.at 0 rfl;have u1:=C8.out.at 1 rfl;have uz:=C8.out.lt
  have v0:=M8.out.at 0 rfl;have v1:=M8.out.at 1 rfl;have vz:=M8.out.lt
  have hgw8:=FA8.out.lt.2
  have END0:Hid (¬qC l W bx byy bw bh far v d→ ∀w',Ext w8 w'→ ∃d':Nat,d'≤4∧Value.int .i64 ((d:Int)+1)= .int .i64 d'∧(∀j,j<d'→ ¬qC l W bx byy bw bh far v j)∧Ext w5 w'):=aA (fun hn w' hx=>
   ⟨d+1,hd4,by go_num,fun j hj=>by
    by_cases e:j=d
    ·subst e;exact hn
    exact NO.out j (by omega),HX58.out.trans hx⟩)
  cases hbq:bO bx byy bw bh P Q
  ·rw[hbq]at SH HHD
   have HSM:=aA (END0.out (by rw[HHD.out];intro h;cases h.1))
   clear hbq END0
   go_wp2_with fail
   refine aS w8 [(0,true),(1,true),(2,false),(3,true),(4,true),(5,true),(6,true),(7,true),(8,true),(9,true),(10,true),(11,true),(12,true),(13,true),(14,true),(15,true),(16,true),(17,true),(18,true),(19,true),(20,true),(21,true),(22,true),(23,true),(24,true),(25,true),(26,true),(27,true),(28,true),(29,true),(30,true),(31,true),(32,true),(33,true),(34,true),(35,true),(36,true),(37,true)] (fun hK0=> ?_)
   iterate 2 (refine SeqH.fr1 ?_;try simp only[zz])
   (refine aP ?_;intro K hK;go_simp;refine(SH.out _).mono ?_;rintro e w9 ⟨rfl,hb9⟩;go_wp2_with fail;refine hK.out _ _ (aI z_x) (fun hK0=> ?_);clear hK K;try simp only[zz])
   iterate 35 (refine SeqH.fr1 ?_;try simp only[zz])
   refine SeqH.done ?_
   have hx9:=hK0.2
   clear hK0 hb9
   go_wp2_with fail
   go_roundw
   case rel=>obtain⟨d',e1,e2,e3,e4⟩:=HSM.out _ hx9;exact⟨d',e1,e2,rfl,e3,e4⟩
   simp[intOf];omega
  rw[hbq]at SH HHD
  have pin:=HLP.out.in_ hbq
  have hun:=HLP.out.idx_lt pin
  rw[HN.out]at hun
  have kui:=bT (W:=W) pin.1 (by omega) pin.2.2.1
  have e1:=cN (a:=Q) (b:=W) (A:=256) (B:=256) (by omega) (by omega) (by omega) (by omega)
  have k1:IntKind.i64.wrap (Q*W)=Q*W:=IntWalk.i64_in _ (by omega)
  have k2:IntKind.i64.wrap (Q*W+P)=((aC W (P,Q):Nat):Int):=by rw[kui];exact IntWalk.i64_in _ (by omega)
  have hpi:=dQ pin.1 pin.2.1 pin.2.2.1
  have hqi:=dR pin.1 pin.2.1 pin.2.2.1
  obtain⟨u,hu⟩: ∃z,aC W (P,Q)=z:=⟨_,rfl⟩
  rw[hu]at hun k2 HHD HNH hpi hqi
  have HPQ:=aA (show(P,Q)=aG W u by unfold aG;rw[hpi,hqi])
  have fu:=(FA8.out.cell hun).1
  have hu0:=FF.out.nn u
  have hul:=FF.out.le u
  have huf:=FLo.out u
  have hcb:=bX HU.out W (vx W v,vy W v)
  rw[HVC.out]at hcb
  have hgn:(aE HLP.out).n=n:=HN.out
  rw[hgn]at huf
  obtain⟨uu,huu⟩: ∃z,far u=z:=⟨_,rfl⟩
  rw[huu]at fu HHD hu0 hul huf
  rw[HFW.out]at HHD
  have j1:(u:Int)<(n:Int):=by omega
  obtain⟨cst,hcst⟩: ∃z,l.getD v 0=z:=⟨_,rfl⟩
  rw[hcst]at CC8 hcb HHD
  clear kui e1 hu huu hpi hqi pin hcst hgn
  by_cases hinf:uu=18446744073709551615
  ·subst hinf
   have HSM:=aA (END0.out (by rw[HHD.out];intro h;exact h.2.1 rfl))
   clear END0 HHD hul huf hbq
   go_wp2_with fail
   refine aS w8 [(0,true),(1,true),(2,false),(3,true),(4,true),(5,true),(6,true),(7,true),(8,true),(9,true),(10,true),(11,true),(12,true),(13,true),(14,true),(15,true),(16,true),(17,true),(18,true),(19,true),(20,true),(21,true),(22,true),(23,true),(24,true),(25,true),(26,true),(27,true),(28,true),(29,true),(30,true),(31,true),(32,true),(33,true),(34,true),(35,true),(36,true),(37,true)] (fun hK0=> ?_)
   iterate 2 (refine SeqH.fr1 ?_;try simp only[zz])
   (refine aP ?_;intro K hK;go_simp;refine(SH.out _).mono ?_;rintro e w9 ⟨rfl,hb9⟩;go_wp2_with fail;refine hK.out _ _ (aI z_x) (fun hK0=> ?_);clear hK K;try simp only[zz])
   iterate 35 (refine SeqH.fr1 ?_;try simp only[zz])
   refine SeqH.done ?_
   have hx9:=hK0.2
   clear hK0 hb9
   go_wp2_with fail
   go_roundw
   case rel=>obtain⟨d',e1,e2,e3,e4⟩:=HSM.out _ hx9;exact⟨d',e1,e2,rfl,e3,e4⟩
   simp[intOf];omega
  have eI:aJ=18446744073709551615:=rfl
  have huf2:=huf (by omega)
  have k5:IntKind.u64.wrap (uu+cst)=uu+cst:=by rw[IntKind.wrap_u64];omega
  have k6:(uu !=18446744073709551615)=true:=by simpa using hinf
  have HINF:=aA hinf
  clear hul huf huf2 hinf eI
  by_cases hhit:uu+cst=fw
  ·have hl:(uu+cst==fw)=true:=by simpa using hhit
   have HNX:=aA (HNH.out (HHD.out.2 ⟨rfl,HINF.out,hhit⟩))
   have REL:Hid (∀(v':Value) (w':World),Own cellE w' (w.heap.size+3) 28 v' ([(P,Q)]++(aG W v::(pre.reverse.map (aG W))))→Below (w.heap.size+3) w1 w'→ ∃(pre2 rest2:List Nat) (v2:Nat),Value.int .i64 ((pre.length:Int)+1)= .int .i64 (pre2.length:Int)∧p=pre2++rest2∧BackP (aE HLP.out) far v2 rest2∧far v2<aJ∧Own cellE w' (w.heap.size+3) 28 v' ((pre2++[v2]).reverse.map (aG W))∧Below (w.heap.size+3) w1 w'):=aA (fun v' w' ho hbl=>by
    have hlt:=(iY FF.out HFV.out HNX.out).2.1
    obtain⟨rest2,hr2,hb2⟩: ∃rest2,rest=v::rest2∧BackP (aE HLP.out) far u rest2:=by
     cases BP.out with
     |done h0=>exact absurd (HFW.out.symm.trans h0) HNZ.out
     |step h0 hn hb'=>
      rw[HNX.out]at hn
      cases hn
      exact⟨_,rfl,hb'⟩
    refine⟨pre++[v],rest2,u,by simp,by rw[HPP.out,hr2];simp,hb2,hlt,?_,hbl⟩
    rw[show(pre++[v]++[u]).reverse.map (aG W)=[(P,Q)]++(aG W v::(pre.reverse.map (aG W))) by rw[HPQ.out,List.reverse_append,List.reverse_append];rfl]
    exact ho)
   clear END0 HHD hhit hbq
   go_wp2_with fail
   refine aS w8 [(0,true),(1,true),(2,false),(3,true),(4,true),(5,true),(6,true),(7,true),(8,true),(9,true),(10,true),(11,true),(12,true),(13,true),(14,true),(15,true),(16,true),(17,true),(18,true),(19,true),(20,true),(21,true),(22,true),(23,true),(24,true),(25,true),(26,true),(27,true),(28,true),(29,true),(30,true),(31,true),(32,true),(35,true),(33,false),(34,true),(36,true),(37,true)] (fun hK0=> ?_)
   iterate 2 (refine SeqH.fr1 ?_;try simp only[zz])
   (refine aP ?_;intro K hK;go_simp;refine(SH.out _).mono ?_;rintro e w9 ⟨rfl,hb9⟩;go_wp2_with fail;refine hK.out _ _ (aI z_x) (fun hK0=> ?_);clear hK K;try simp only[zz])
   iterate 31 (refine SeqH.fr1 ?_;try simp only[zz])
   (refine aP ?_;intro K hK;go_simp;refine(CC8.out _ z_x).mono ?_;rintro e w10 ⟨rfl,hb10⟩;go_wp2_with fail;refine hK.out _ _ (aI z_x) (fun hK0=> ?_);clear hK K;try simp only[zz])
   iterate 3 (refine SeqH.fr1 ?_;try simp only[zz])
   refine SeqH.done ?_
   have hx9:=hK0.2
   have zz0:=hx9.size
   have zz1:=(HX5.out.trans HX58.out).size
   have m0:=(hx9.cell (p:=⟨mb,0,none⟩) vz).trans v0
   have m1:=(hx9.cell (p:=⟨mb,1,none⟩) vz).trans v1
   have HX9:=aA hx9
   have zz2:w.heap.size+3≤w10.heap.size:=by omega
   have hlz:(aG W v::(pre.reverse.map (aG W))).length=pre.length+1:=by simp
   have HLZ:=aA hlz
   clear hK0 hb9 hb10 hx9 hlz
   go_wp2_with (at_builtin;refine jY cellE T_cells rfl _ _ rfl (w.heap.size+3) _ [(P,Q)] (aG W v::(pre.reverse.map (aG W))) rfl (Own.lit1 cellE w10 _ _ _ (P,Q) _ rfl rfl zz2) ob oo oc (by rw[HLZ.out];rfl) (Reads.cells (RD.out.ext (((HX5.out.trans HX58.out).trans HX9.out).trans ((Ext.refl _).alloc _)))).2.2 (by rw[HLZ.out];simp only[List.length_singleton];omega) (by rw[HLZ.out];simp only[List.length_singleton];omega) (by simp;omega) ?_;intro v' w11 ho11 hb11;have HO:=aA ho11;have HB:=aA ((BL.out.trans (Below.mono ((HX5.out.trans HX58.out).trans HX9.out) (by omega))).trans (Below.trans ((Below.refl _ _).alloc zz2 _) hb11));clear ho11 hb11)
   go_roundw
   case rel=>exact REL.out _ _ HO.out HB.out
   simp[intOf];omega
  have hl:(uu+cst==fw)=false:=by simpa using hhit
  have HSM:=aA (END0.out (by rw[HHD.out];intro h;exact hhit h.2.2))
  clear END0 HHD hhit hbq
  go_wp2_with fail
  refine aS w8 [(0,true),(1,true),(2,false),(3,true),(4,true),(5,true),(6,true),(7,true),(8,true),(9,true),(10,true),(11,true),(12,true),(13,true),(14,true),(15,true),(16,true),(17,true),(18,true),(19,true),(20,true),(21,true),(22,true),(23,true),(24,true),(25,true),(26,true),(27,true),(28,true),(29,true),(30,true),(31,true),(32,true),(35,true),(33,false),(34,true),(36,true),(37,true)] (fun hK0=> ?_)
  iterate 2 (refine SeqH.fr1 ?_;try simp only[zz])
  (refine aP ?_;intro K hK;go_simp;refine(SH.out _).mono ?_;rintro e w9 ⟨rfl,hb9⟩;go_wp2_with fail;refine hK.out _ _ (aI z_x) (fun hK0=> ?_);clear hK K;try simp only[zz])
  iterate 31 (refine SeqH.fr1 ?_;try simp only[zz])
  (refine aP ?_;intro K hK;go_simp;refine(CC8.out _ z_x).mono ?_;rintro e w10 ⟨rfl,hb10⟩;go_wp2_with fail;refine hK.out _ _ (aI z_x) (fun hK0=> ?_);clear hK K;try simp only[zz])
  iterate 3 (refine SeqH.fr1 ?_;try simp only[zz])
  refine SeqH.done ?_
  have hx9:=hK0.2
  clear hK0 hb9
  go_wp2_with fail
  go_roundw
  case rel=>obtain⟨d',e1,e2,e3,e4⟩:=HSM.out _ hx9;exact⟨d',e1,e2,rfl,e3,e4⟩
  simp[intOf];omega
 obtain rfl:d=4:=by omega
 exact absurd NO.out (aMg HLP.out FF.out HFV.out (by have:=HFW.out;have:=HNZ.out;omega))
end Go.Proofs.YtaellcgglldjaaaGreat

namespace Go.Proofs.YtaellcgglldjaaaGreat
open Go.Shelf Go.RowKit
def aGd:Go.Shelf.Ren:=⟨fun|4=>196|n=>n,fun|0=>0|2=>3|3=>3|4=>4|9=>9|20=>20|22=>37|25=>28|n=>n,fun n=>n⟩
theorem aKk:Lays8.n4 Tryz.prog aGd:={
 mixed:=by kernel_rfl,
 f4:=⟨Tryz.f196.name,by decide,Tryz.func196.trans (congrArg some (by kernel_rfl))⟩,
 t0:=Tryz.underlying0,
 a0:=Tryz.isAgg0,
 z0:=Tryz.sizeOf0,
 v0:=Tryz.zeroValue0,
 t3:=Tryz.underlying3,
 a3:=Tryz.isAgg3,
 z3:=Tryz.sizeOf3,
 v3:=Tryz.zeroValue3,
 t4:=Tryz.underlying4,
 a4:=Tryz.isAgg4,
 z4:=Tryz.sizeOf4,
 v4:=Tryz.zeroValue4,
 t9:=Tryz.underlying9,
 a9:=Tryz.isAgg9,
 z9:=Tryz.sizeOf9,
 v9:=Tryz.zeroValue9,
 t20:=Tryz.underlying20,
 a20:=Tryz.isAgg20,
 z20:=Tryz.sizeOf20,
 v20:=Tryz.zeroValue20,
 t22:=Tryz.underlying37,
 a22:=Tryz.isAgg37,
 z22:=Tryz.sizeOf37,
 v22:=Tryz.zeroValue37}
end Go.Proofs.YtaellcgglldjaaaGreat

namespace Go.Proofs.YtaellcgglldjaaaGreat
open Go.RowKit
theorem aD8 {α:Type} {E:Enc α} {w:World} {base:Nat} {e:TypeId} {a:Option Addr} {n c:Nat} {l:List α} (h:Own E w base e (.slice a n c) l):n≤c:=by
 rcases h.2 with⟨hv,h0⟩|⟨g,cap,cur,hv,hb,hg,hle,_⟩
 ·cases hv;omega
 cases hv;exact hle
theorem rS {w:World} {g c:Nat} {PP:List aB} (hk:PP.length≤c) (h:Reads cellE w (.slice (some ⟨g,0,none⟩) PP.length c) PP):Reads cellE w (.slice (if c=1 then some ⟨g,0,none⟩ else some ⟨g,2,none⟩) (PP.length-1) (c-1)) (PP.drop 1):=by
 obtain⟨hz,_,hc⟩:=Reads.cells h
 by_cases e:c=1
 ·rw[if_pos e]
  have hl:PP.drop 1=[]:=List.drop_eq_nil_of_le (by omega)
  refine .inr ⟨g,0,c-1,by rw[List.length_drop],hz,fun k a h=> ?_⟩
  rw[hl]at h
  simp at h
 rw[if_neg e]
 refine .inr ⟨g,2,c-1,by rw[List.length_drop],hz,fun k a h j u hu=> ?_⟩
 have h1:=hc (k+1) a (by rw[List.getElem?_drop,Nat.add_comm]at h;exact h) j u hu
 rw[show 2+(k*cellE.size+j)=0+((k+1)*cellE.size+j) by show 2+(k*2+j)=0+((k+1)*2+j);omega]
 exact h1
theorem aJ4 (n:Nat) (hn:n≤1000000) (w:World):Calls Tryz.prog 196 #[.slice none 0 0, .int .i64 (n:Int)] w fun e w'=> ∃v,e= .returned v∧Ext w w'∧Own cellE w' w.heap.size 28 v []:=by
 by_cases h0:n=0
 ·subst h0
  refine(Any8.slices_Grow_room aKk none 0 0 0 w (by omega) (by omega) (by omega) (by omega)).mono ?_
  rintro e w' ⟨rfl,rfl⟩
  exact⟨_,rfl,Ext.refl _,Own.nil _ _ _ _⟩
 obtain⟨i0,hi,hz0,hz1,hz2⟩:=info_parts T_cells.info
 refine(Any8.slices_Grow_grow aKk i0 _ hi hz0 (by rw[hz1];decide) none 0 0 n [] w (by omega) (by omega) (by rw[hz2];omega) (by omega) (by simp) (fun _=>rfl) (fun a h=>by cases h)).mono ?_
 rintro e w' ⟨rfl,rfl⟩
 have h1:=grownCap_ge w (0+n) 0 28
 have h2:=grownCap_le_maxLen w (0+n) 0 28 (by unfold maxLen;omega)
 refine⟨_,rfl,((Ext.refl _).drew).alloc _,by simp, .inr ⟨w.heap.size,_,_,rfl,Nat.le_refl _,heap_alloc_new w.drew _,Nat.zero_le _,h2,?_,by simp⟩⟩
 show(#[]++Builtin.zeroCells _ (0+n-0)++Builtin.zeroCells _ (grownCap w (0+n) 0 28-(0+n))).size=grownCap w (0+n) 0 28*2
 rw[Array.size_append,Array.size_append,size_zeroCells,size_zeroCells]
 have h3:(Value.agg #[.int .i64 0, .int .i64 0]).cells.size=2:=rfl
 rw[h3]
 simp only[Nat.zero_add]at h1
 simp
 omega
def aF2 {α:Type} (a b:List α) (k:Nat):List α:=if k=0 then[] else if k=1 then a else a++b
set_option maxRecDepth 100000 in
set_option maxHeartbeats 1000000 in
theorem tC {w:World} {sb:Nat} {a b:Option Addr} {na nb ca cb:Nat} {A B:List aB} (hs:Blk w sb 37 #[.slice a na ca, .slice b nb cb]) (hA:Reads cellE w (.slice a na ca) A) (hB:Reads cellE w (.slice b nb cb) B) (hla:A.length≤100000) (hlb:B.length≤100000):
  Calls Tryz.prog 178 #[.slice (some ⟨sb,0,none⟩) 2 2] w fun e w'=> ∃v,e= .returned v∧Ext w w'∧Own cellE w' w.heap.size 28 v (A++B):=by
 have HS:=aA hs
 have RA:=aA hA
 have RB:=aA hB
 have hna:na=A.length:=by obtain⟨_,_,h⟩:=hA.slice;injection h
 have hnb:nb=B.length:=by obtain⟨_,_,h⟩:=hB.slice;injection h
 have LA:=aA hna.symm
 have LB:=aA hnb.symm
 rw[←hna]at hla
 rw[←hnb]at hlb
 have HG:=aA (aJ4 (na+nb) (by omega) w)
 obtain⟨ns,hns⟩: ∃z:Nat,na+nb=z:=⟨_,rfl⟩
 have HNS:=aA hns
 rw[hns]at HG
 have hns2:ns≤200000:=by omega
 have k1:IntKind.i64.wrap (0+(na:Int))=(na:Int):=by rw[IntWalk.i64_in _ (by omega)];omega
 have k2:IntKind.i64.wrap ((na:Int)+(nb:Int))=(ns:Int):=by rw[IntWalk.i64_in _ (by omega)];omega
 have s0:=hs.at 0 rfl
 have s1:=hs.at 1 rfl
 have sz:=hs.lt
 clear hs hA hB hns hna hnb
 go_enter Tryz.func178,Tryz.ntmps178
 go_wp2_with fail
 go_loopw [3,11] (fun sv iv wr=>wr=w∧ ∃k:Nat,k≤2∧iv= .int .i64 (k:Int)∧sv= .int .i64 (if k=0 then 0 else if k=1 then(na:Int) else(ns:Int))) (fun _ iv _=>2-(intOf iv).toNat)
 case atStart=>exact⟨rfl,0,Nat.zero_le _,rfl,rfl⟩
 obtain⟨hw,k,hk,rfl,rfl⟩:=hrel
 subst hw
 obtain⟨wB,rfl⟩: ∃z,z=wr:=⟨_,rfl⟩
 rcases (by omega:k=0∨k=1∨k=2) with rfl|rfl|rfl
 ·simp only[if_pos]
  go_wp2_with fail
  go_roundw
  case rel=>exact⟨by first|trivial|rfl,1,by omega,rfl,by simp⟩
  simp[intOf]
 ·simp only[if_pos,Nat.one_ne_zero,if_false]
  have g1: ¬((ns:Int)<0):=by omega
  go_wp2_with fail
  go_roundw
  case rel=>exact⟨by first|trivial|rfl,2,by omega,rfl,by simp⟩
  simp[intOf]
 have e0:(if(2:Nat)=0 then(0:Int) else if(2:Nat)=1 then(na:Int) else(ns:Int))=(ns:Int):=rfl
 rw[e0]
 clear e0
 go_wp2_with fail
 refine(HG.out).mono ?_
 rintro e w1 ⟨v1,rfl,x1,o1⟩
 have O1:=aA o1
 have X1:=aA x1
 obtain⟨a1,c1,rfl⟩:=o1.slice
 clear o1 x1 s0 s1 sz
 go_wp2_with fail
 go_loopw [6,27] (fun ov iv wq=> ∃k:Nat,k≤2∧iv= .int .i64 (k:Int)∧Own cellE wq wB.heap.size 28 ov (aF2 A B k)∧Ext wB wq) (fun _ iv _=>2-(intOf iv).toNat)
 case atStart=>exact⟨0,Nat.zero_le _,rfl,O1.out,X1.out⟩
 obtain⟨k,hk,rfl,ho,hx⟩:=hrel
 have OQ:=aA ho
 have XQ:=aA hx
 have SQ:=aA (HS.out.ext hx)
 have zq:=hx.size
 obtain⟨oa,oc,rfl⟩:=ho.slice
 clear ho hx
 have s0:=SQ.out.at 0 rfl;have s1:=SQ.out.at 1 rfl;have sz:=SQ.out.lt
 rcases (by omega:k=0∨k=1∨k=2) with rfl|rfl|rfl
 ·go_wp2_with (at_builtin;refine cO cellE T_cells rfl _ _ rfl wB.heap.size _ [] A rfl OQ.out _ rfl (RA.out.ext XQ.out) (by rw[LA.out];simp;omega) (by rw[LA.out];simp;omega) zq ?_;intro v9 w9 o9 t9 l9;have O9:=aA o9;have X9:=aA (XQ.out.of_below (t9.to_below (B:=wB.heap.size) zq (fun k hk=>(aF OQ.out hk).1)) (Nat.le_refl _));clear o9 t9 l9)
  go_roundw
  case rel=>exact⟨1,by omega,rfl,O9.out,X9.out⟩
  simp[intOf]
 ·have hl1:(aF2 A B 1).length=na:=by rw[show aF2 A B 1=A from rfl,LA.out]
  have HL1:=aA hl1
  rw[hl1]at OQ⊢
  clear hl1
  go_wp2_with (at_builtin;refine cO cellE T_cells rfl _ _ rfl wB.heap.size _ A B rfl OQ.out _ rfl (RB.out.ext XQ.out) (by rw[LA.out,LB.out];omega) (by rw[LA.out,LB.out];omega) zq ?_;intro v9 w9 o9 t9 l9;have O9:=aA o9;have X9:=aA (XQ.out.of_below (t9.to_below (B:=wB.heap.size) zq (fun k hk=>(aF OQ.out hk).1)) (Nat.le_refl _));clear o9 t9 l9)
  go_roundw
  case rel=>exact⟨2,by omega,rfl,O9.out,X9.out⟩
  simp[intOf]
 obtain⟨no,hno⟩: ∃z,(aF2 A B 2).length=z:=⟨_,rfl⟩
 rw[hno]at OQ⊢
 clear hno
 go_wp2_with fail
 go_ret
 exact⟨_,rfl,XQ.out,OQ.out⟩
theorem aAw {w:World} {b:Nat} (x:Value) (y:Value) (h:b=w.heap.size):Blk (w.alloc (.cells #[x,y] 37)) b 37 #[x,y]:=by subst h;exact Blk.new _ _ _
set_option maxRecDepth 100000 in
set_option maxHeartbeats 1000000 in
theorem aJc {w:World} {ga gb ca cb na nb:Nat} {base base':Nat} {A B:List aB} {q:aB} (hA:Own cellE w base 28 (.slice (some ⟨ga,0,none⟩) na ca) A) (hB:Own cellE w base' 28 (.slice (some ⟨gb,0,none⟩) nb cb) B) (ha:A.getLast? =some q) (hb:B.head? =some q) (hla:A.length≤100000) (hlb:B.length≤100000):
  Calls Tryz.prog 149 #[.slice (some ⟨ga,0,none⟩) na ca, .slice (some ⟨gb,0,none⟩) nb cb] w fun e w'=> ∃v,e= .returned (.tuple #[v, .int .i64 0])∧Ext w w'∧Own cellE w' w.heap.size 28 v (A++B.drop 1):=by
 have OA:=aA hA
 have OB:=aA hB
 have hna:na=A.length:=by obtain⟨_,_,h⟩:=hA.slice;injection h
 have hnb:nb=B.length:=by obtain⟨_,_,h⟩:=hB.slice;injection h
 have kcb:nb≤cb:=aD8 hB
 have hA1:A[na-1]? =some q:=by rw[hna,←List.getLast?_eq_getElem?];exact ha
 have hB0:B[0]? =some q:=by rw[←List.head?_eq_getElem?];exact hb
 have ga0:=(zJ hA1).1
 have gb0:=(zJ hB0).1
 obtain⟨_,_,e,hza,a0,a1⟩:=nE hA.reads hA1
 cases e
 obtain⟨_,_,e,hzb,b0,b1⟩:=nE hB.reads hB0
 cases e
 have LA:=aA hna
 have LB:=aA hnb
 obtain⟨nq,rfl⟩: ∃z,na=z+1:=⟨na-1,by omega⟩
 rw[Nat.add_sub_cancel]at a0 a1
 have k1:IntKind.i64.wrap (((nq+1:Nat):Int)-1)=(nq:Int):=by rw[IntWalk.i64_in _ (by omega)];omega
 have k2:IntKind.i64.wrap ((nq:Int)+1-1)=(nq:Int):=by rw[IntWalk.i64_in _ (by omega)];omega
 have k3:IntKind.i64.wrap (nq:Int)=(nq:Int):=IntWalk.i64_in _ (by omega)
 have hnz: ¬((nq:Int)+1=0):=by omega
 have hnzb: ¬(nb:Int)=0:=by omega
 have hb1:((nq:Int)+1==0)=false:=by simpa using hnz
 have hb2:((nb:Int)==0)=false:=by simpa using hnzb
 have jq:(nq:Int)<(nq:Int)+1:=by omega
 have hq0:(0:Int)≤(nq:Int):=by omega
 have jb:(1:Int)≤(nb:Int):=by omega
 have jb0:(0:Int)<(nb:Int):=by omega
 have jbn:0<nb:=by omega
 obtain⟨qx,qy⟩:=q
 have HEQ:=fun(w:World)=>bC (qx,qy) (qx,qy) w
 rw[show cK (qx,qy) (qx,qy)=true by simp[cK]]at HEQ
 simp only at a0 a1 b0 b1 HEQ
 simp only[Nat.zero_add,Nat.zero_mul]at a0 a1 b0 b1
 clear hA hB ha hb hA1 hB0 ga0 gb0 hna hnb
 go_enter Tryz.func149,Tryz.ntmps149
 go_wp2_with fail
 refine aS w [(0,true),(1,true),(2,true),(3,true),(4,true),(5,true),(6,true),(7,true),(8,true),(9,true),(10,true),(11,true),(12,true),(13,true),(14,true),(15,true),(16,true),(17,true),(18,true),(19,true)] (fun hK0=> ?_)
 iterate 20 (refine SeqH.fr1 ?_;try simp only[zz])
 refine SeqH.done ?_
 have XE:=aA hK0.2
 clear hK0
 have RV0:=(OB.out.ext XE.out).reads
 rw[LB.out]at RV0
 have RV:=aA (rS (by rw[←LB.out];exact kcb) RV0)
 rw[←LB.out]at RV
 clear RV0
 have OA2:=aA (OA.out.ext XE.out)
 clear OB LA LB hb1 hb2 k1 k2 k3 hnz hnzb jq hq0 jb0 a0 a1 b0 b1 HEQ OA
 have XW:=aA (Ext.refl w).drew
 by_cases hcb:cb=1
 ·obtain rfl:=hcb
  obtain rfl:nb=1:=by omega
  rw[if_pos rfl]at RV
  simp only[Nat.sub_self]at RV
  go_wp2_with fail
  refine(tC (A:=A) (B:=B.drop 1) (aAw _ _ rfl) ((OA2.out.ext ((Ext.refl _).alloc _)).reads) (RV.out.ext ((Ext.refl _).alloc _)) hla (by rw[List.length_drop];omega)).mono ?_
  rintro e w5 ⟨v,rfl,x5,o5⟩
  have X5:=aA ((XW.out.alloc _).trans x5)
  have O5:=aA (o5.lower (base':=w.heap.size) (by simp))
  clear x5
  obtain⟨va,vc,rfl⟩:=o5.slice
  clear o5
  go_wp2_with fail
  exact bodyPost_ret (v:= .tuple #[.slice va (A++B.drop 1).length vc, .int .i64 0]) (by simp[results,Tryz.results149,go_sem, *]) rfl ⟨_,rfl,X5.out,O5.out⟩
 rw[if_neg hcb]at RV
 go_wp2_with fail
 refine(tC (A:=A) (B:=B.drop 1) (aAw _ _ rfl) ((OA2.out.ext ((Ext.refl _).alloc _)).reads) (RV.out.ext ((Ext.refl _).alloc _)) hla (by rw[List.length_drop];omega)).mono ?_
 rintro e w5 ⟨v,rfl,x5,o5⟩
 have X5:=aA ((XW.out.alloc _).trans x5)
 have O5:=aA (o5.lower (base':=w.heap.size) (by simp))
 clear x5
 obtain⟨va,vc,rfl⟩:=o5.slice
 clear o5
 go_wp2_with fail
 exact bodyPost_ret (v:= .tuple #[.slice va (A++B.drop 1).length vc, .int .i64 0]) (by simp[results,Tryz.results149,go_sem, *]) rfl ⟨_,rfl,X5.out,O5.out⟩
end Go.Proofs.YtaellcgglldjaaaGreat

