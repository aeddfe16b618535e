/- Part of a proof: StarH. -/
import Derived.Test.YtaellcgglldjaaaGreatHierFindsQ37
set_option linter.all false
set_option linter.unusedVariables false
set_option linter.unusedSimpArgs false
namespace Go.Proofs.YtaellcgglldjaaaGreat
open Go.RowKit
def qS (G:Net) (W:Int) (hh:Nat→Int) (t:Nat) (b:Int) (A0:AS) (base:Nat) (e:Ending) (w':World):Prop:=
 ∃(p:List Nat) (c k er:Int) (v:Value),ARun G W hh t b A0 p c k er∧e= .returned (.tuple #[.agg #[v, .int .u64 c, .int .i64 k], .int .i64 er])∧Own cellE w' base 28 v (p.map (aG W))
theorem aIp {G:Net} {D:Nat→Int} {s:Nat} {A:AS} {pend:Nat→Nat→Prop} (I:SInv G D s A pend): ∀(k:Nat) (v:Nat),A.g v=(k:Int)→A.st v≠0→ ∃l,Chain A.came v l∧(∀u,u∈l→A.st u≠0∧A.g u≤A.g v)∧l.Nodup:=by
 intro k
 induction k using Nat.strongRecOn with
 |_ k ih=>
  intro v hk hv
  by_cases hs:v=s
  ·subst hs
   exact⟨[v], .stop (by rw[I.sc];omega),fun u hu=>by simp at hu;subst hu;exact⟨hv,Int.le_refl _⟩,by simp⟩
  obtain⟨u,h1,h2,_,h4⟩:=I.back v hv hs
  have hp:=G.pos v (I.op v hv)
  have hb:=I.bd u (by omega)
  obtain⟨l,c1,c2,c3⟩:=ih (A.g u).toNat (by omega) u (by omega) (by omega)
  refine⟨v::l, .go h1 c1,fun x hx=> ?_,List.nodup_cons.2 ⟨fun hm=> ?_,c3⟩⟩
  ·rcases List.mem_cons.1 hx with rfl|hx
   ·exact⟨hv,Int.le_refl _⟩
   exact⟨(c2 x hx).1,by have:=(c2 x hx).2;omega⟩
  have:=(c2 v hm).2
  omega
theorem vT (A:AS) {v:Nat} (h:A.st v≠0) (z:Int):gF A z=gF (A.settle v) z:=by
 unfold gF AS.settle bS
 simp only
 by_cases e:z.toNat=v
 ·rw[if_pos e,e]
  by_cases h0:0≤z
  ·rw[if_pos ⟨h0,h⟩,if_pos ⟨h0,by omega⟩]
  rw[if_neg (fun x=>h0 x.1),if_neg (fun x=>h0 x.1)]
 rw[if_neg e]
theorem aFr (A:AS) {v:Nat} (h:A.st v≠0) (z:Int):cF A z=cF (A.settle v) z:=by
 unfold cF AS.settle bS
 simp only
 by_cases e:z.toNat=v
 ·rw[if_pos e,e]
  by_cases h0:0≤z
  ·rw[if_pos ⟨h0,h⟩,if_pos ⟨h0,by omega⟩]
  rw[if_neg (fun x=>h0 x.1),if_neg (fun x=>h0 x.1)]
 rw[if_neg e]
theorem aEu (G:Net) (c:Nat) (A:AS) (m:Nat) {u:Nat} (hu:A.st u=2):(rx G c A m).st u=2∧(rx G c A m).g u=A.g u:=by
 unfold rx
 split
 ·next h=>
  have hne:u≠m:=fun e=>by subst e;rcases h with h|h<;>omega
  exact⟨(fA _ _ hne).trans hu,gZ _ _ hne⟩
 exact⟨hu,rfl⟩
theorem aHo (G:Net) (c:Nat) (A:AS) (m:Nat):(rx G c A m).cnt=A.cnt:=by
 unfold rx;split<;>rfl
theorem aLt {G:Net} {D:Nat→Int} {s:Nat} {A:AS} {pend:Nat→Nat→Prop} (I:SInv G D s A pend) (F:IsFar G s D) (hn:G.n≤1000000) {c m:Nat} (hc:A.st c=2) (hm:G.op m=true) (ha:m∈G.adj c) (h2:A.st m=2):A.g m≤A.g c+G.cost m:=by
 have hco:=I.op c (by omega)
 have hb2:=I.bd2 c hc
 have hfew:=I.few
 have htm:=G.top m hm
 have hpm:=G.pos m hm
 have hbc:=I.bd c (by omega)
 have e:aJ=18446744073709551615:=rfl
 rw[I.opt m h2]
 have hgc:=I.opt c hc
 by_cases hs:m=s
 ·subst hs;rw[F.start hm];omega
 have:=F.near m hm hs c (G.sym m c hm hco ha) hco (by omega)
 omega
theorem xY (a d:Int) (hd: -1≤d∧d≤1):eV a≤eV (a+d)+(if d=0 then 0 else 1):=by
 unfold eV
 split<;>split<;>split<;>omega
theorem aJ6 {W H:Int} {l:List Int} (L:LandP W H l 0 0 W H) {tx ty:Int} {hh:Nat→Int} (he: ∀v,hh v=dN (vx W v) (vy W v) tx ty):oO (aE L) hh:=by
 intro u v _ hv ha
 obtain⟨p,hp,rfl⟩:=List.mem_map.1 ha
 obtain⟨k,hk,ho,rfl⟩:=mem_nbC.1 hp
 have hin:=L.in_ (eQ ho).1
 rw[he,he,dQ hin.1 hin.2.1 hin.2.2.1,dR hin.1 hin.2.1 hin.2.2.1]
 have hd:=pX k
 have h1:=xY (vx W u-tx) (aU k) (by omega)
 have h2:=xY (vy W u-ty) (aV k) (by omega)
 unfold dN
 rw[show vx W u+aU k-tx=vx W u-tx+aU k by omega,show vy W u+aV k-ty=vy W u-ty+aV k by omega]
 have h3:(if aU k=0 then(0:Int) else 1)+(if aV k=0 then 0 else 1)≤1:=by
  obtain rfl|rfl|rfl|rfl:k=0∨k=1∨k=2∨k=3:=by omega
  all_goals simp[aU,aV]
 omega
set_option maxRecDepth 100000 in
set_option maxHeartbeats 16000000 in
theorem aK4 {w:World} {sb:Nat} {W H:Int} {ab aoff:Nat} {l:List Int} {c:Nat} {h mg mc:Nat} {S:Nat→Prop} {A0:AS} {M0 s t:Nat} (L:LandP W H l 0 0 W H) {D:Nat→Int} (F:IsFar (aE L) s D) (I0:SInv (aE L) D s A0 (fun _ _=>False)) (ht:(aE L).op t=true) (hc0:A0.cnt=0) (hM0:M0≤1)
  (m0:SMem w sb W H (some ⟨ab,aoff,none⟩) l.length c (vx W t) (vy W t) h mg mc 0 S (kOf W (fun v=>dN (vx W v) (vy W v) (vx W t) (vy W t)) A0) A0 M0) (hr:Row16 w (some ⟨ab,aoff,none⟩) l) (hab: ¬S ab∧ab≠sb∧ab≠mg∧ab≠mc∧ab<w.heap.size) (b:Int):
  Calls Tryz.prog 61 #[.pointer (some ⟨sb,0,none⟩), .int .i64 b] w fun e w'=>qS (aE L) W (fun v=>dN (vx W v) (vy W v) (vx W t) (vy W t)) t b A0 w.heap.size e w'∧Touch (fun j=>S j∨j=sb∨j=mg∨j=mc) w w':=by
 have HL:=aA L
 have wh:=L.wh
 have FF:Hid (IsFar (aE HL.out) s D):=aA F
 have II0:Hid (SInv (aE HL.out) D s A0 (fun _ _=>False)):=aA I0
 obtain⟨hh,hhe⟩: ∃hh:Nat→Int,(fun v=>dN (vx W v) (vy W v) (vx W t) (vy W t))=hh:=⟨_,rfl⟩
 rw[hhe]at m0⊢
 have HHE:=aA (fun v=>(congrFun hhe v).symm)
 have HM0:=aA m0
 have HR0:=aA hr
 have htn:t<l.length:=(aE L).lt t ht
 have htv:=L.v_in htn
 have hz0:sb<w.heap.size:=Blk.lt m0.sea
 obtain⟨n1,n2,n3,n4,n5,n6⟩:=m0.ns
 have hg0:mg<w.heap.size:=by obtain⟨N,_,hN⟩:=m0.gm;exact hN.lt
 have hm0:mc<w.heap.size:=by obtain⟨N,_,hN⟩:=m0.cm;exact hN.lt
 obtain⟨n,hn⟩: ∃n,l.length=n:=⟨_,rfl⟩
 have HN:=aA hn
 have HT:=aA ht
 obtain⟨G,hG⟩: ∃G,aE HL.out=G:=⟨_,rfl⟩
 have HG:=aA hG
 rw[hG]at FF II0
 have HGN:=aA (show G.n=n by rw[←hG];exact hn)
 rw[show aE L=G from hG]at HT⊢
 rw[hn]at htn wh HM0
 have HC0:=aA hc0
 clear m0 hr hhe F I0 hn hG ht hc0
 have HGU:Hid (oO G hh):=aA (by rw[←HG.out];exact aJ6 HL.out HHE.out)
 go_enter Tryz.func61,Tryz.ntmps61
 go_wp2_with fail
 obtain⟨w1,hw1⟩: ∃w1,w1=(w.alloc (.cells #[.pointer (some ⟨sb,0,none⟩)] 135)).alloc (.cells #[.slice none 0 0, .int .u64 0, .int .i64 0] 40):=⟨_,rfl⟩
 have hx1:Ext w w1:=by rw[hw1];exact z_x
 have hz1:w1.heap.size=w.heap.size+2:=by rw[hw1];simp
 have BP:Hid (Blk w1 w.heap.size 135 #[.pointer (some ⟨sb,0,none⟩)]):=aA (by rw[hw1];exact(Blk.new_ rfl).over)
 have BR:Hid (Blk w1 (w.heap.size+1) 40 #[.slice none 0 0, .int .u64 0, .int .i64 0]):=aA (by rw[hw1];exact Blk.new_ (by simp))
 have M1:Hid (SMem w1 sb W H (some ⟨ab,aoff,none⟩) n c (vx W t) (vy W t) h mg mc A0.cnt (fun j=>S j∧j≠w.heap.size∧j≠w.heap.size+1) (kOf W hh A0) A0 M0):=aA (by
  rw[HC0.out]
  exact HM0.out.touch (T:=fun _=>False) (Touch.of_ext hx1) (fun x=>x) (fun x=>x) (fun x=>x) (fun j hj hS=>⟨⟨hS,by omega,by omega⟩,fun x=>x⟩) ⟨fun x=>n1 x.1,fun x=>n2 x.1,fun x=>n3 x.1⟩ (fun j hj=>⟨HM0.out.nw j (by omega),by omega,by omega⟩))
 have HX1:=aA hx1
 have HZ1:=aA hz1
 have hz1':w.heap.size+2≤w1.heap.size:=by omega
 rw[←hw1]
 clear hw1 hx1 hz1
 obtain⟨S1,hS1⟩: ∃S1:Nat→Prop,(fun j=>S j∧j≠w.heap.size∧j≠w.heap.size+1)=S1:=⟨_,rfl⟩
 have HS1:=aA (fun j=>(congrFun hS1 j).symm)
 rw[hS1]at M1
 have HW:Hid (∀wr,Touch (fun j=>S1 j∨j=sb∨j=mg∨j=mc) w1 wr→Blk wr w.heap.size 135 #[.pointer (some ⟨sb,0,none⟩)]∧Blk wr (w.heap.size+1) 40 #[.slice none 0 0, .int .u64 0, .int .i64 0]∧Row16 wr (some ⟨ab,aoff,none⟩) l∧Touch (fun j=>S j∨j=sb∨j=mg∨j=mc) w wr∧w.heap.size+2≤wr.heap.size):=aA (fun wr tt=>by
  have e1: ∀j,S1 j→S j∧j≠w.heap.size∧j≠w.heap.size+1:=fun j hj=>by rw[HS1.out j]at hj;exact hj
  have hsz:=tt.size
  exact⟨BP.out.touch tt (fun x=>x.elim (fun y=>(e1 _ y).2.1 rfl) (fun y=>by omega)),BR.out.touch tt (fun x=>x.elim (fun y=>(e1 _ y).2.2 rfl) (fun y=>by omega)),(HR0.out.ext HX1.out).touch tt (fun b0 o e=>by cases e;exact fun x=>x.elim (fun y=>hab.1 (e1 _ y).1) (fun y=>by omega)),(Touch.of_ext HX1.out).after tt (fun j _ x=>x.imp (fun y=>(e1 _ y).1) id),by omega⟩)
 have HS1n:Hid (¬S1 sb∧ ¬S1 mg∧ ¬S1 mc):=aA M1.out.ns|>fun x=>aA ⟨x.out.1,x.out.2.1,x.out.2.2.1⟩
 clear hS1 BP BR HR0 HM0
 go_loopg [] n (fun gk wr=> ∃(A:AS) (M:Nat),gk=n-A.cnt.toNat∧SInv G D s A (fun _ _=>False)∧SMem wr sb W H (some ⟨ab,aoff,none⟩) n c (vx W t) (vy W t) h mg mc A.cnt S1 (kOf W hh A) A M∧(M:Int)≤4*A.cnt+1∧(∀p cc k er,ARun G W hh t b A p cc k er→ARun G W hh t b A0 p cc k er)∧Touch (fun j=>S1 j∨j=sb∨j=mg∨j=mc) w1 wr)
 case atStart=>exact⟨A0,M0,by rw[HC0.out];rfl,II0.out,M1.out,by rw[HC0.out];omega,fun _ _ _ _ x=>x,Touch.refl _ _⟩
 obtain⟨A,M,rfl,hI,hm,hMb,hA,htt⟩:=hrel
 have II:=aA hI
 have MM:=aA hm
 have HA:=aA hA
 have TT:=aA htt
 obtain⟨bp,br,hrw,htw,hzr⟩:=HW.out _ htt
 have BPr:=aA bp
 have BRr:=aA br
 have HRr:=aA hrw
 have HTw:=aA htw
 have q2:wr.cell? ⟨sb,5,none⟩=some (.pointer (some ⟨h,0,none⟩)):=hm.sea.at 5 rfl
 have q8:wr.cell? ⟨sb,8,none⟩=some (.int .i64 A.cnt):=hm.sea.at 8 rfl
 have p0:wr.cell? ⟨w.heap.size,0,none⟩=some (.pointer (some ⟨sb,0,none⟩)):=bp.at 0 rfl
 have hfew:=hI.few
 rw[HGN.out]at hfew
 obtain⟨ts,hts,hq⟩:=hm.heap
 have HTS:=aA hts
 have HQ1:=aA hq
 have HLn:=aA (aCw hts)
 clear hI hm hA htt bp br hrw htw hts hq M1 II0
 by_cases hnil:ts=[]
 ·subst hnil
  have hno: ∀v,A.st v≠1:=fun v hv=>by have:=HQ1.out.fin v hv;simp[ids]at this
  have hrun:=HA.out _ _ _ _ (ARun.none hno)
  have HRUN:=aA hrun
  have r0:wr.cell? ⟨w.heap.size+1,0,none⟩=some (.slice none 0 0):=BRr.out.at 0 rfl
  have r1:wr.cell? ⟨w.heap.size+1,1,none⟩=some (.int .u64 0):=BRr.out.at 1 rfl
  have r2:wr.cell? ⟨w.heap.size+1,2,none⟩=some (.int .i64 0):=BRr.out.at 2 rfl
  have f0:=BRr.out.frozen 0
  have f1:=BRr.out.frozen 1
  have f2:=BRr.out.frozen 2
  clear hno hrun
  go_wp2_with fail
  refine(HLn.out).mono ?_
  rintro e w2 ⟨rfl,rfl⟩
  go_wp2_with fail
  exact bodyPost_ret (v:= .tuple #[.agg #[.slice none 0 0, .int .u64 0, .int .i64 A.cnt], .int .i64 22]) (by simp[results,Tryz.results61,go_sem, *]) rfl ⟨⟨[],0,A.cnt,22,_,HRUN.out,rfl,Own.nil _ _ _ _⟩,((HTw.out.setCell (p:=⟨w.heap.size+1,0,none⟩) (.inr (Nat.le_succ _)) _).setCell (p:=⟨w.heap.size+1,1,none⟩) (.inr (Nat.le_succ _)) _).setCell (p:=⟨w.heap.size+1,2,none⟩) (.inr (Nat.le_succ _)) _⟩
 have hlen:0<ts.length:=List.length_pos_iff.2 hnil
 have HNI:=aA hnil
 obtain⟨v1,hv1⟩: ∃v,A.st v=1:=by
  cases ts with
  |nil=>exact absurd rfl hnil
  |cons x r=>obtain⟨v,_,h1⟩:=HQ1.out.thing x List.mem_cons_self;exact⟨v,h1⟩
 have hop1:=II.out.opens hv1
 rw[HGN.out]at hop1
 clear hnil
 by_cases hbud:A.cnt=b
 ·have HRUN:=aA (HA.out _ _ _ _ (ARun.full (G:=G) (W:=W) (h:=hh) (t:=t) v1 hv1 hbud))
  have hbb:(A.cnt==b)=true:=by simpa using hbud
  have r0:wr.cell? ⟨w.heap.size+1,0,none⟩=some (.slice none 0 0):=BRr.out.at 0 rfl
  have r1:wr.cell? ⟨w.heap.size+1,1,none⟩=some (.int .u64 0):=BRr.out.at 1 rfl
  have r2:wr.cell? ⟨w.heap.size+1,2,none⟩=some (.int .i64 0):=BRr.out.at 2 rfl
  have f0:=BRr.out.frozen 0
  have f1:=BRr.out.frozen 1
  have f2:=BRr.out.frozen 2
  clear hbud hv1
  go_wp2_with fail
  refine(HLn.out).mono ?_
  rintro e w2 ⟨rfl,rfl⟩
  go_wp2_with fail
  exact bodyPost_ret (v:= .tuple #[.agg #[.slice none 0 0, .int .u64 0, .int .i64 A.cnt], .int .i64 23]) (by simp[results,Tryz.results61,go_sem, *]) rfl ⟨⟨[],0,A.cnt,23,_,HRUN.out,rfl,Own.nil _ _ _ _⟩,((HTw.out.setCell (p:=⟨w.heap.size+1,0,none⟩) (.inr (Nat.le_succ _)) _).setCell (p:=⟨w.heap.size+1,1,none⟩) (.inr (Nat.le_succ _)) _).setCell (p:=⟨w.heap.size+1,2,none⟩) (.inr (Nat.le_succ _)) _⟩
 have hbb:(A.cnt==b)=false:=by simpa using hbud
 have HBUD:=aA hbud
 have hops: ∀u,A.st u≠0→u<n:=fun u hu=>by have:=G.lt u (II.out.op u hu);rw[HGN.out]at this;exact this
 have hfewt:=HQ1.out.few hops
 have HPOP:=aA (uO HTS.out (by omega) hlen)
 clear hbud hv1
 go_wp2_with fail
 refine(HLn.out).mono ?_
 rintro e w2 ⟨rfl,rfl⟩
 go_wp2_with fail
 refine(HPOP.out).mono ?_
 rintro e w2 ⟨rfl,ts2,h2,p2,t2⟩
 obtain⟨v,htop,hst1,hbest,hq2⟩:=HQ1.out.pop HTS.out.ok p2
 have hvn:=hops v (by omega)
 have hvi:=HL.out.v_in (v:=v) (by rw[HN.out];exact hvn)
 have hb:eL W hh A v:=⟨hst1,hbest⟩
 have hgD:=qP (A:=A) II.out FF.out (by rw[HGN.out];omega) (h:=hh) HGU.out hb
 have hgb:=II.out.bd v (by omega)
 rw[htop]
 unfold kOf
 simp only[eX]
 obtain⟨X,hX⟩: ∃z,vx W v=z:=⟨_,rfl⟩
 obtain⟨Y,hY⟩: ∃z,vy W v=z:=⟨_,rfl⟩
 have HXY:=aA (And.intro hX hY)
 rw[hX,hY]at hvi⊢
 have T2:=aA t2
 have H2:=aA h2
 have HQ2:=aA hq2
 have HB:=aA hb
 have HGD:=aA hgD
 have HST1:=aA hst1
 have SE2:Hid (iH w2 sb W H (some ⟨ab,aoff,none⟩) n c (vx W t) (vy W t) h mg mc A.cnt):=aA (Blk.touch MM.out.sea t2 HS1n.out.1)
 have hn1: ¬S1 w.heap.size:=fun x=>by rw[HS1.out]at x;exact x.2.1 rfl
 have hn2: ¬S1 (w.heap.size+1):=fun x=>by rw[HS1.out]at x;exact x.2.2 rfl
 have BP2:=aA (BPr.out.touch t2 hn1)
 have BR2:=aA (BRr.out.touch t2 hn2)
 have e8:w2.cell? ⟨sb,8,none⟩=some (.int .i64 A.cnt):=SE2.out.at 8 rfl
 have g8:=SE2.out.frozen 8
 have p0:w2.cell? ⟨w.heap.size,0,none⟩=some (.pointer (some ⟨sb,0,none⟩)):=BP2.out.at 0 rfl
 have hz2:=t2.size
 have hsw2:sb<w2.heap.size:=by omega
 have hcb:A.cnt≤65536:=by omega
 have zbp:w.heap.size<w2.heap.size:=by omega
 have zrb:w.heap.size+1<w2.heap.size:=by omega
 have zsn:sb≠w2.heap.size:=by omega
 have zwn:w.heap.size≠sb:=by omega
 obtain⟨gv,hgv⟩: ∃z,A.g v=z:=⟨_,rfl⟩
 have HGV:=aA hgv
 obtain⟨hv,hhv⟩: ∃z,hh v=z:=⟨_,rfl⟩
 have HHV:=aA hhv
 rw[hgv,hhv]
 clear t2 h2 hq2 hb hgD hst1 hX hY htop hbest hn1 hn2 q2 q8 p2 HPOP HLn hops hgv hhv hgb
 go_wp2_with fail
 obtain⟨w3,hw3⟩: ∃w3,w3=((w2.setCell ⟨sb,8,none⟩ (.int .i64 (A.cnt+1))).alloc (.cells #[.int .u64 (gv+hv), .int .u64 hv, .int .i64 Y, .int .i64 X] 181)).alloc (.cells #[.int .i64 X, .int .i64 Y] 28):=⟨_,rfl⟩
 have hz3:w3.heap.size=w2.heap.size+2:=by rw[hw3];simp
 have t23:Touch (fun j=>j=sb) w2 w3:=by rw[hw3];exact((((Touch.refl (fun j=>j=sb) w2).setCell (p:=⟨sb,8,none⟩) (.inl rfl) _).alloc _).alloc _)
 have SE3:Hid (iH w3 sb W H (some ⟨ab,aoff,none⟩) n c (vx W t) (vy W t) h mg mc (A.cnt+1)):=aA (by rw[hw3];exact((Blk.set_ SE2.out 8 (.int .i64 (A.cnt+1))).over).over)
 have CB3:Hid (Blk w3 (w2.heap.size+1) 28 #[.int .i64 X, .int .i64 Y]):=aA (by rw[hw3];exact Blk.new_ (by simp))
 have BP3:=aA (BP2.out.touch t23 zwn)
 have BR3:=aA (BR2.out.touch t23 (by omega))
 have T23:=aA t23
 have HZ3:=aA hz3
 have hz3':w2.heap.size+2≤w3.heap.size:=by omega
 have hz3'':w3.heap.size≤w2.heap.size+2:=by omega
 rw[←hw3]
 obtain⟨cb,hcbe⟩: ∃z,w2.heap.size+1=z:=⟨_,rfl⟩
 rw[hcbe]at CB3⊢
 clear hw3 t23 hz3 e8 g8 p0 zsn BP2 BR2 SE2
 have s3:w3.cell? ⟨sb,3,none⟩=some (.int .i64 (vx W t)):=SE3.out.at 3 rfl
 have s4:w3.cell? ⟨sb,4,none⟩=some (.int .i64 (vy W t)):=SE3.out.at 4 rfl
 have p0:w3.cell? ⟨w.heap.size,0,none⟩=some (.pointer (some ⟨sb,0,none⟩)):=BP3.out.at 0 rfl
 have zs3:sb<w3.heap.size:=by omega
 have zb3:w.heap.size<w3.heap.size:=by omega
 have hq1:=fun w=>bC (X,Y) (vx W t,vy W t) w
 simp only at hq1
 have HCBE:=aA hcbe
 have u0:=CB3.out.at 0 rfl;have u1:=CB3.out.at 1 rfl;have uz:=CB3.out.lt
 clear hcbe
 by_cases hvt:v=t
 ·have hcell:cK (X,Y) (vx W t,vy W t)=true:=by rw[bB,←HXY.out.1,←HXY.out.2,hvt];simp
  rw[hcell]at hq1
  have HVT:=aA hvt
  clear hcell hvt
  refine aS w3 [(0,true),(1,true),(2,true),(3,true),(4,true),(5,true)] (fun hK0=> ?_)
  iterate 6 (refine SeqH.fr1 ?_;try simp only[zz])
  refine SeqH.done ?_
  have hx4:=hK0.2
  obtain⟨l0,c1,c2,c3⟩:=aIp II.out (A.g v).toNat v (by have:=II.out.bd v (by have:=HST1.out;omega);omega) (by have:=HST1.out;omega)
  have hll:l0.length≤n:=fR c3 (fun u hu=>by have:=G.lt u (II.out.op u (c2 u hu).1);rw[HGN.out]at this;exact this)
  obtain⟨N1,hN1,hMg⟩:=MM.out.gm
  obtain⟨N2,hN2,hMc⟩:=MM.out.cm
  have Mg3:=aA ((hMg.touch T2.out HS1n.out.2.1).touch T23.out (fun e=>n4 e.symm))
  have Mc3:=(hMc.touch T2.out HS1n.out.2.2).touch T23.out (fun e=>n5 e.symm)
  have HPA:=aA (fun(w':World) (hx:Ext w3 w')=>aHt (w:=w') (Blk.ext SE3.out hx) (Mc3.ext hx) (by omega) c1 (by omega) (fun u hu=>⟨by have:=G.lt u (II.out.op u (c2 u hu).1);rw[HGN.out]at this;omega,aMu (c2 u hu).1⟩) (fun u hu h=>by
   by_cases e:u=s
   ·rw[e];exact II.out.sc
   obtain⟨u',h1,_⟩:=II.out.back u (c2 u hu).1 e
   omega))
  have HF:Hid (bN .i64 (v:Int)):=aA (dG (by omega))
  have HGA:Hid (gF A (v:Int)=some gv):=aA (by rw[oZ (by have:=HST1.out;omega),HGV.out])
  have HRUN:=aA (HA.out _ _ _ _ (ARun.found (G:=G) (t:=t) (by rw[←HVT.out];exact HB.out) HBUD.out (by rw[←HVT.out];exact c1)))
  rw[←HVT.out,HGV.out]at HRUN
  have s6:w3.cell? ⟨sb,6,none⟩=some (.map (some mg)):=SE3.out.at 6 rfl
  have s8:w3.cell? ⟨sb,8,none⟩=some (.int .i64 (A.cnt+1)):=SE3.out.at 8 rfl
  have S3:Hid (∀w',Ext w3 w'→(fun W'=>CellsAt [(⟨w.heap.size,0,none⟩, .pointer (some ⟨sb,0,none⟩)),(⟨sb,6,none⟩, .map (some mg)),(⟨sb,8,none⟩, .int .i64 (A.cnt+1))] W'∧(Instr.lookup 105 (.map (some mg)) (.int .i64 (v:Int)) false).run Tryz.prog W'= .ok (.int .u64 gv) W') w'):=aA (fun w' hx=>⟨CellsAt.ext hx ⟨p0,s6,s8,trivial⟩,(Mg3.out.ext hx).get_run gB HF.out HGA.out⟩)
  clear hK0 s3 s4 c1 c2 c3 hMg hMc Mc3 s6 s8 p0 u0 u1 uz
  go_wp2_with fail
  refine bM (S:=(fun W'=>CellsAt [(⟨w.heap.size,0,none⟩, .pointer (some ⟨sb,0,none⟩)),(⟨sb,6,none⟩, .map (some mg)),(⟨sb,8,none⟩, .int .i64 (A.cnt+1))] W'∧(Instr.lookup 105 (.map (some mg)) (.int .i64 (v:Int)) false).run Tryz.prog W'= .ok (.int .u64 gv) W')) [(0,true),(1,true),(3,true),(4,true),(5,true),(6,true),(7,true),(8,true),(9,true),(10,true),(11,true),(12,true),(2,false),(13,true),(14,false),(15,true)] (by kernel_rfl) (by kernel_rfl) (by kernel_rfl) (by decide) (fun _ _ d _ _ h=>by cases d<;>exact h) (S3.out _ z_x) (fun hK0=> ?_)
  iterate 12 (refine SeqH.fr2 ?_;try simp only[zz])
  (refine aP ?_;intro K hK;go_simp;refine(HPA.out _ z_x).mono ?_;rintro e w5 ⟨r,rfl,hx5,hr5⟩;have hx35:Ext w3 w5:=z_x;obtain⟨ra,rc,rfl⟩:=hr5.slice;have HR5:=aA hr5;have HX35:=aA hx35;have BR5:=BR3.out.ext hx35;have r0:=BR5.at 0 rfl;have r1:=BR5.at 1 rfl;have r2:=BR5.at 2 rfl;have f0:=BR5.frozen 0;have f1:=BR5.frozen 1;have f2:=BR5.frozen 2;have S5:=aA (S3.out _ hx35);have M5:=aA (Mg3.out.ext hx35);have FS5:Hid (∀w',Touch (fun j=>j=w.heap.size+1) w5 w'→(fun W'=>CellsAt [(⟨w.heap.size,0,none⟩, .pointer (some ⟨sb,0,none⟩)),(⟨sb,6,none⟩, .map (some mg)),(⟨sb,8,none⟩, .int .i64 (A.cnt+1))] W'∧(Instr.lookup 105 (.map (some mg)) (.int .i64 (v:Int)) false).run Tryz.prog W'= .ok (.int .u64 gv) W') w'):=aA (fun w' tt=>⟨CellsAt.touch tt (by intro p hp;simp only[List.mem_cons,List.not_mem_nil,or_false]at hp;rcases hp with rfl|rfl|rfl;(·show ¬w.heap.size=w.heap.size+1;omega);(·show ¬sb=w.heap.size+1;omega);(·show ¬sb=w.heap.size+1;omega)) S5.out.1,(M5.out.touch tt (fun e=>by omega)).get_run gB HF.out HGA.out⟩);clear hr5 hx5 hx35 BR5;go_wp2_with fail;refine hK.out _ _ (S5.out) (fun hK0=> ?_);clear hK K;try simp only[zz])
  iterate 1 (refine SeqH.fr2 ?_;try simp only[zz])
  (refine aP ?_;intro K hK;go_simp;refine hK.out _ _ (FS5.out _ ((((Touch.refl (fun j=>j=w.heap.size+1) w5).setCell (p:=⟨w.heap.size+1,0,none⟩) (.inl rfl) _).setCell (p:=⟨w.heap.size+1,1,none⟩) (.inl rfl) _).setCell (p:=⟨w.heap.size+1,2,none⟩) (.inl rfl) _)) (fun hK0=> ?_);clear hK K;try simp only[zz])
  iterate 1 (refine SeqH.fr2 ?_;try simp only[zz])
  refine SeqH.done ?_
  have tF:Touch (fun j=>j=w.heap.size+1) w5 (((w5.setCell ⟨w.heap.size+1,0,none⟩ (.slice ra (l0.reverse.map (aG W)).length rc)).setCell ⟨w.heap.size+1,1,none⟩ (.int .u64 gv)).setCell ⟨w.heap.size+1,2,none⟩ (.int .i64 (A.cnt+1))):=((((Touch.refl (fun j=>j=w.heap.size+1) w5).setCell (p:=⟨w.heap.size+1,0,none⟩) (.inl rfl) _).setCell (p:=⟨w.heap.size+1,1,none⟩) (.inl rfl) _).setCell (p:=⟨w.heap.size+1,2,none⟩) (.inl rfl) _)
  have hl2:(l0.reverse.map (aG W)).length=l0.length:=by simp
  rw[hl2]at tF
  have TF:=aA tF
  have HL2:=aA hl2
  have e1: ∀j,S1 j→S j:=fun j hj=>by rw[HS1.out j]at hj;exact hj.1
  have TT5:Touch (fun j=>S j∨j=sb∨j=mg∨j=mc) w w5:=((HTw.out.after T2.out (fun j _ x=> .inl (e1 j x))).after T23.out (fun j _ x=> .inr (.inl x))).trans (Touch.of_ext HX35.out)
  have HTT5:=aA TT5
  clear tF hl2 e1 TT5 hK0
  go_wp2_with fail
  exact bodyPost_ret (v:= .tuple #[.agg #[.slice ra l0.length rc, .int .u64 gv, .int .i64 (A.cnt+1)], .int .i64 0]) (by simp[results,Tryz.results61,go_sem, *]) rfl ⟨⟨l0.reverse,gv,A.cnt+1,0,_,(by rw[←HVT.out];exact HRUN.out),rfl,by
   have:=Own.touch HR5.out TF.out (fun k hk e=>by have:=(aF HR5.out hk).1;simp at this;omega)
   rw[HL2.out]at this
   exact Own.lower this (by simp;omega)⟩,HTT5.out.after TF.out (fun j hj e=>by omega)⟩
 have hcell:cK (X,Y) (vx W t,vy W t)=false:=by
  rw[bB,decide_eq_false_iff_not]
  intro e
  injection e with e1 e2
  apply hvt
  rw[←gE wh.1 v,←gE wh.1 t,HXY.out.1,HXY.out.2,e1,e2]
 rw[hcell]at hq1
 have HVT:=aA hvt
 have hinB:inB W H X Y=true:=inB_true.2 (by omega)
 have HBE:=aA (fun w'=>aDx (w:=w') W H X Y hinB)
 clear hcell hvt hinB
 refine aS w3 [(0,true),(1,true),(2,true),(3,true),(4,true),(5,true)] (fun hK0=> ?_)
 iterate 6 (refine SeqH.fr1 ?_;try simp only[zz])
 refine SeqH.done ?_
 have hx4:=hK0.2
 have s0:w3.cell? ⟨sb,0,none⟩=some (.int .i64 W):=SE3.out.at 0 rfl
 have s1:w3.cell? ⟨sb,1,none⟩=some (.int .i64 H):=SE3.out.at 1 rfl
 clear hK0 s3 s4 hq1
 go_wp2_with fail
 refine aS w3 [(0,true),(1,true),(2,true),(3,true),(4,true),(5,true),(6,false),(7,true),(8,true),(9,true),(10,true),(11,true)] (fun hK0=> ?_)
 iterate 6 (refine SeqH.fr1 ?_;try simp only[zz])
 (refine aP ?_;intro K hK;go_simp;refine(HBE.out _).mono ?_;rintro e w5 ⟨v5,rfl,hx5,hv5⟩;go_wp2_with fail;refine hK.out _ _ (aI z_x) (fun hK0=> ?_);clear hK K;try simp only[zz])
 iterate 5 (refine SeqH.fr1 ?_;try simp only[zz])
 refine SeqH.done ?_
 have hx35:=hK0.2
 have HV5:=aA (hv5.lower (base':=w3.heap.size) (by simp))
 have HX35:=aA hx35
 have z5:=hx35.size
 have q0:=(hx35.cell (p:=⟨w.heap.size,0,none⟩) zb3).trans p0
 have hrow3:Row16 w3 (some ⟨ab,aoff,none⟩) l:=(HRr.out.touch T2.out (fun b0 o e=>by cases e;exact fun x=>by rw[HS1.out]at x;exact hab.1 x.1)).touch T23.out (fun b0 o e=>by cases e;exact hab.2.1)
 have HDE:=aA (aBb (w:=w5) (v:=v5) (f:=108) (caps:= #[.pointer (some ⟨w.heap.size,0,none⟩)]) (L:=dB W H (fF X Y)) (p:=fun q=>decide (aL l W q=0)) (base:=w3.heap.size) (by have:=rM W H (fF X Y);rw[mY]at this;omega) HV5.out
  (fun w' tt q hq=>by
   have hown:=fun k hk=>(aF HV5.out (k:=k) hk).1
   have hqb:inB W H q.1 q.2=true:=by
    obtain⟨x,hx,rfl⟩:=List.mem_map.1 hq
    exact(List.mem_filter.1 hx).2
   have hq2:=inB_true.1 hqb
   have hlw:(l.length:Int)=W*H:=HL.out.len
   exact aHu (w:=w') (bp:=w.heap.size) (sb:=sb) (W:=W) (H:=H) (l:=l) (c:=c) (tx:=vx W t) (ty:=vy W t) (h:=h) (mg:=mg) (mc:=mc) (k:=A.cnt+1) ((tt.cell (p:=⟨w.heap.size,0,none⟩) (by show w.heap.size<w5.heap.size;omega) (fun e=>by have:=hown _ e;simp at this;omega)).trans q0)
    (by rw[HN.out];exact Blk.touch (Blk.ext SE3.out HX35.out) tt (fun e=>by have:=hown _ e;omega)) HL.out.may hlw ((hrow3.ext HX35.out).touch tt (fun b0 o e=>by cases e;exact fun x=>by have:=hown _ x;omega)) HL.out.u16 q.1 q.2 (by omega) (by omega) (by omega) (by omega))
  (enters_of Tryz.func108 (by kernel_rfl) rfl))
 rw[show(dB W H (fF X Y)).filter (fun q=> !decide (aL l W q=0))=nbC (bD l W 0 0 W H) X Y 4 from sY HL.out.may HL.out.u16 X Y 4]at HDE
 clear hK0 hv5 s0 s1 p0 u0 u1 uz hrow3 hx4 q0
 go_wp2_with fail
 refine HDE.out.mono ?_
 rintro e w6 ⟨v6,rfl,hv6,t56⟩
 have hown5:=fun k hk=>(aF HV5.out (k:=k) hk).1
 have T26:Touch (fun j=>j=sb) w2 w6:=((T23.out.trans (Touch.of_ext HX35.out)).after t56 (fun j hj e=>by have:=hown5 _ e;omega))
 have hz6:=t56.size
 obtain⟨NB,hNB⟩: ∃NB,nbC (bD l W 0 0 W H) X Y 4=NB:=⟨_,rfl⟩
 have hadj:G.adj v=NB.map (aC W):=by
  rw[←HG.out,←hNB,←HXY.out.1,←HXY.out.2]
  rfl
 have hnb4:NB.length≤4:=by rw[←hNB];exact oF _ _ _ _
 rw[hNB]at hv6
 obtain⟨S2,hS2⟩: ∃S2:Nat→Prop,(fun j=>S1 j∧ ¬(w2.heap.size≤j∧j<w6.heap.size))=S2:=⟨_,rfl⟩
 have HS2:=aA (fun j=>(congrFun hS2 j).symm)
 have hs0:A.st v≠0:=by have:=HST1.out;omega
 have BP6:=aA (Blk.touch (Blk.ext BP3.out HX35.out) t56 (fun e=>by have:=hown5 _ e;omega))
 have SM6:Hid (SMem w6 sb W H (some ⟨ab,aoff,none⟩) n c (vx W t) (vy W t) h mg mc (A.settle v).cnt S2 (kOf W hh (A.settle v)) (A.settle v) M):=aA {
  sea:=Blk.touch (Blk.ext SE3.out HX35.out) t56 (fun e=>by have:=hown5 _ e;omega)
  gm:=by
   obtain⟨N1,a1,a2⟩:=MM.out.gm
   exact⟨N1,a1,((a2.touch T2.out HS1n.out.2.1).touch T26 (fun e=>n4 e.symm)).congr (vT A hs0)⟩
  cm:=by
   obtain⟨N1,a1,a2⟩:=MM.out.cm
   exact⟨N1,a1,((a2.touch T2.out HS1n.out.2.2).touch T26 (fun e=>n5 e.symm)).congr (aFr A hs0)⟩
  heap:=⟨ts2,(H2.out.mono (S':=S2) (fun j hj hS=>by rw[HS2.out];exact⟨hS,by omega⟩)).touch T26 (fun j hj e=>by rw[HS2.out]at hj;subst e;exact HS1n.out.1 hj.1),HQ2.out⟩
  ns:=⟨fun x=>by rw[HS2.out]at x;exact HS1n.out.1 x.1,fun x=>by rw[HS2.out]at x;exact HS1n.out.2.1 x.1,fun x=>by rw[HS2.out]at x;exact HS1n.out.2.2 x.1,n4,n5,n6⟩
  nw:=fun j hj=>by rw[HS2.out];exact⟨MM.out.nw j (by omega),by omega⟩}
 have TT6:Hid (Touch (fun j=>S1 j∨j=sb∨j=mg∨j=mc) w1 w6):=aA ((TT.out.trans (T2.out.mono (fun j _ y=> .inl y))).after T26 (fun j _ y=> .inr (.inl y)))
 have ISE:=aA (rZ II.out HST1.out HGD.out.1)
 have HV6:=aA (hv6.lower (base':=w2.heap.size) (by omega))
 have HROW6:Hid (Row16 w6 (some ⟨ab,aoff,none⟩) l):=aA ((((HRr.out.touch T2.out (fun b0 o e=>by cases e;exact fun x=>by rw[HS1.out]at x;exact hab.1 x.1)).touch T23.out (fun b0 o e=>by cases e;exact hab.2.1)).ext HX35.out).touch t56 (fun b0 o e=>by cases e;exact fun x=>by have:=hown5 _ x;omega))
 have HADJ:=aA hadj
 have HNB:=aA hNB
 have hz26:w2.heap.size≤w6.heap.size:=by omega
 obtain⟨va,vc,hva⟩:=hv6.slice
 subst hva
 have hownv:=fun k hk=>(aF HV6.out (k:=k) hk)
 have HOV:=aA hownv
 clear hown5 T26 t56 hadj hNB hS2 hv6 HDE HBE hownv hs0
 go_wp2_with fail
 go_loopw [88] (fun si wx=> ∃(j:Nat) (A2:AS) (M2:Nat),si= .int .i64 (j:Int)∧j≤NB.length∧A2=rxs G v (A.settle v) ((G.adj v).take j)∧SInv G D s A2 (fun u x=>u=v∧x∈(G.adj v).drop j)∧A2.st v=2∧A2.g v=gv∧A2.cnt=A.cnt+1∧SMem wx sb W H (some ⟨ab,aoff,none⟩) n c (vx W t) (vy W t) h mg mc A2.cnt S2 (kOf W hh A2) A2 M2∧M2≤M+j∧Touch (fun j=>S2 j∨j=mg∨j=mc) w6 wx) (fun si _=>NB.length-(intOf si).toNat)
 case atStart=>exact⟨0,A.settle v,M,rfl,Nat.zero_le _,rfl,ISE.out.weaken (fun u x _ _ hp=>⟨hp.1,by rw[List.drop_zero];exact hp.2⟩),by show bS A.st v 2 v=2;exact cC _ _ _,HGV.out,rfl,SM6.out,Nat.le_refl _,Touch.refl _ _⟩
 obtain⟨j,A2,M2,rfl,hj,hA2,hI2,hst2,hg2,hcnt2,hm2,hM2,ht6⟩:=hrel
 have I2:=aA hI2
 have SM:=aA hm2
 have T6:=aA ht6
 have HA2:=aA hA2
 have HST2:=aA hst2
 have HG2:=aA hg2
 have HCN2:=aA hcnt2
 have hzx:=ht6.size
 clear hI2 hm2 ht6 hA2 hst2 hg2 hcnt2 SM6 ISE
 by_cases hlt:j<NB.length
 ·obtain⟨⟨cx,cy⟩,hq⟩: ∃q,NB[j]? =some q:=⟨_,zG hlt⟩
  obtain⟨x,hxe⟩: ∃x,aC W (cx,cy)=x:=⟨_,rfl⟩
  have hadjx:(G.adj v)[j]? =some x:=by rw[HADJ.out,List.getElem?_map,hq,←hxe];rfl
  have hmemx:x∈G.adj v:=List.mem_of_getElem? hadjx
  have hopx:G.op x=true:=by
   have:=aFd HL.out (u:=x) (v:=v) (by rw[HG.out];exact hmemx)
   rw[HG.out]at this
   exact this
  have hxn:x<n:=by have:=G.lt x hopx;rw[HGN.out]at this;exact this
  have hcin:0≤cx∧cx<W∧0≤cy∧cy<H:=by
   have hm:(cx,cy)∈nbC (bD l W 0 0 W H) X Y 4:=by rw[HNB.out];exact List.mem_of_getElem? hq
   obtain⟨kk,_,ho,e⟩:=mem_nbC.1 hm
   injection e with e1 e2
   rw[←e1,←e2]at ho
   exact HL.out.in_ (eQ ho).1
  have hvx:vx W x=cx:=by rw[←hxe];exact dQ hcin.1 hcin.2.1 hcin.2.2.1
  have hvy:vy W x=cy:=by rw[←hxe];exact dR hcin.1 hcin.2.1 hcin.2.2.1
  have hnS: ∀k,w2.heap.size≤k→k<w6.heap.size→ ¬(S2 k∨k=mg∨k=mc):=fun k h1 h2 y=>y.elim (fun z=>by rw[HS2.out]at z;exact z.2 ⟨h1,h2⟩) (fun z=>by omega)
  have ownx:=Own.touch HV6.out T6.out (fun k hk=>hnS k (aF HV6.out hk).1 (aF HV6.out hk).2)
  obtain⟨g6,hva6⟩: ∃g6,va=some ⟨g6,0,none⟩:=by
   rcases HV6.out.2 with⟨_,h0⟩|⟨g',cap,cur,hv',_⟩
   ·omega
   injection hv' with e1 _ _;exact⟨g',e1⟩
  subst hva6
  obtain⟨d0,d1,zg6⟩:=dZ ownx hq
  simp only at d0 d1
  have hji:(j:Int)<(NB.length:Int):=by omega
  have hbpn: ¬(S2 w.heap.size∨w.heap.size=mg∨w.heap.size=mc):=fun y=>y.elim (fun z=>by rw[HS2.out]at z;have:=z.1;rw[HS1.out]at this;exact this.2.1 rfl) (fun z=>by omega)
  have BPx:=BP6.out.touch T6.out hbpn
  have SM7: ∀w7,Ext wr w7→wr.heap.size<w7.heap.size→SMem w7 sb W H (some ⟨ab,aoff,none⟩) n c (vx W t) (vy W t) h mg mc A2.cnt (fun k=>S2 k∧k≠wr.heap.size) (kOf W hh A2) A2 M2:=fun w7 hx hz=>SM.out.touch (T:=fun _=>False) (Touch.of_ext hx) (fun y=>y) (fun y=>y) (fun y=>y) (fun k hk hS=>⟨⟨hS,by omega⟩,fun y=>y⟩) ⟨fun y=>SM.out.ns.1 y.1,fun y=>SM.out.ns.2.1 y.1,fun y=>SM.out.ns.2.2.1 y.1⟩ (fun k hk=>⟨SM.out.nw k (by omega),by omega⟩)
  have HSM7:=aA SM7
  have hI2:=I2.out
  have hgx:=hI2.bd v (by have:=HST2.out;omega)
  have hcx:=G.pos x hopx
  have hcx2:=G.top x hopx
  have hfew2:=hI2.few
  rw[HGN.out]at hfew2
  rw[HG2.out]at hgx
  have hrow:Row16 wr (some ⟨ab,aoff,none⟩) l:=HROW6.out.touch T6.out (fun b0 o e=>by cases e;exact fun y=>y.elim (fun z=>by rw[HS2.out]at z;have:=z.1;rw[HS1.out]at this;exact hab.1 this.1) (fun z=>by omega))
  have HROW:=aA hrow
  have HX:=aA hxe
  have HOPX:=aA hopx
  have HMX:=aA hmemx
  have HAX:=aA hadjx
  obtain⟨cst,hcst⟩: ∃z,G.cost x=z:=⟨_,rfl⟩
  have HCST:=aA hcst
  rw[hcst]at hcx hcx2
  have HCO:=aA (fun(w':World) (hx:Ext wr w')=>(by
   have:=qO (w:=w') (sb:=sb) (W:=W) (H:=H) (l:=l) (c:=c) (tx:=vx W t) (ty:=vy W t) (h:=h) (mg:=mg) (mc:=mc) (k:=A2.cnt) (by rw[HN.out];exact Blk.ext SM.out.sea hx) HL.out.may HL.out.len (HROW.out.ext hx) HL.out.u16 cx cy hcin.1 hcin.2.1 hcin.2.2.1 hcin.2.2.2
   rw[show aL l W (cx,cy)=cst by rw[mJ,hxe,←hcst,←HG.out];rfl]at this
   exact this:Calls Tryz.prog 59 #[.pointer (some ⟨sb,0,none⟩), .agg #[.int .i64 cx, .int .i64 cy]] w' fun e w''=>e= .returned (.int .u64 cst)∧Ext w' w''))
  have HRE:=aA (fun(w':World) (hx:Ext wr w') (hz:wr.heap.size<w'.heap.size)=>aEv (w:=w') hh (HSM7.out w' hx hz) (by omega) (v:=x) (by rw[hvx,hvy];omega) (by omega) (by omega) (by omega) (by omega) (HHE.out x) (fun u hu=>by have:=G.lt u (I2.out.op u hu);rw[HGN.out]at this;omega) (I2.out.two x) (G:=G) (u:=v) (by rw[HG2.out,hcst];omega) (by omega) (fun h2=>aLt I2.out FF.out (by rw[HGN.out];omega) HST2.out HOPX.out HMX.out h2))
  rw[hvx,hvy,HG2.out,hcst]at HRE
  have k5:IntKind.u64.wrap (gv+cst)=gv+cst:=by rw[IntKind.wrap_u64];omega
  have HNSb:=aA hbpn
  have p0x:wr.cell? ⟨w.heap.size,0,none⟩=some (.pointer (some ⟨sb,0,none⟩)):=BPx.at 0 rfl
  have s6x:wr.cell? ⟨sb,6,none⟩=some (.map (some mg)):=SM.out.sea.at 6 rfl
  have PX:=aA (And.intro p0x s6x)
  have zbx:w.heap.size<wr.heap.size:=by omega
  have zsx:sb<wr.heap.size:=by omega
  clear hq hxe hadjx hmemx hopx hvx hvy hnS ownx hbpn BPx SM7 hI2 hrow p0x s6x hcst hfew2
  go_wp2_with fail
  obtain⟨w7,hw7⟩: ∃w7,w7=wr.alloc (.cells #[.int .i64 cx, .int .i64 cy] 28):=⟨_,rfl⟩
  have hx7:Ext wr w7:=by rw[hw7];exact(Ext.refl _).alloc _
  have hz7:wr.heap.size<w7.heap.size:=by rw[hw7];simp
  have MB:Blk w7 wr.heap.size 28 #[.int .i64 cx, .int .i64 cy]:=by rw[hw7];exact Blk.new_ rfl
  rw[←hw7]
  obtain⟨mb,hmbe⟩: ∃z,wr.heap.size=z:=⟨_,rfl⟩
  have HMB:=aA hmbe
  have HX7:=aA hx7
  have zmb:mb<w7.heap.size:=by omega
  rw[hmbe]at MB⊢
  have m0:=MB.at 0 rfl
  have m1:=MB.at 1 rfl
  have q0:=(hx7.cell (p:=⟨w.heap.size,0,none⟩) zbx).trans PX.out.1
  have q6:=(hx7.cell (p:=⟨sb,6,none⟩) zsx).trans PX.out.2
  have HF:Hid (bN .i64 (v:Int)):=aA (dG (by omega))
  have HGA2:Hid (gF A2 (v:Int)=some gv):=aA (by rw[oZ (by have:=HST2.out;omega),HG2.out])
  have S7:Hid (∀w',Ext w7 w'→(fun W'=>CellsAt [(⟨w.heap.size,0,none⟩, .pointer (some ⟨sb,0,none⟩)),(⟨sb,6,none⟩, .map (some mg)),(⟨mb,0,none⟩, .int .i64 cx),(⟨mb,1,none⟩, .int .i64 cy)] W'∧(Instr.lookup 105 (.map (some mg)) (.int .i64 (v:Int)) false).run Tryz.prog W'= .ok (.int .u64 gv) W') w'):=aA (fun w' hx=>⟨CellsAt.ext hx ⟨q0,q6,m0,m1,trivial⟩,by
   obtain⟨N1,_,a2⟩:=SM.out.gm
   exact(a2.ext (hx7.trans hx)).get_run gB HF.out HGA2.out⟩)
  clear hw7 hx7 hmbe MB m0 m1 q0 q6 d0 d1
  refine bM (S:=(fun W'=>CellsAt [(⟨w.heap.size,0,none⟩, .pointer (some ⟨sb,0,none⟩)),(⟨sb,6,none⟩, .map (some mg)),(⟨mb,0,none⟩, .int .i64 cx),(⟨mb,1,none⟩, .int .i64 cy)] W'∧(Instr.lookup 105 (.map (some mg)) (.int .i64 (v:Int)) false).run Tryz.prog W'= .ok (.int .u64 gv) W')) [(0,true),(1,true),(2,true),(3,true),(4,true),(5,true),(6,true),(7,true),(8,true),(9,true),(12,true),(10,false),(11,true),(13,false)] (by kernel_rfl) (by kernel_rfl) (by kernel_rfl) (by decide) (fun _ _ d _ _ h=>by cases d<;>exact h) (S7.out _ z_x) (fun hK0=> ?_)
  iterate 11 (refine SeqH.fr2 ?_;try simp only[zz])
  (refine aP ?_;intro K hK;go_simp;refine(HCO.out _ (HX7.out.trans z_x)).mono ?_;rintro e w8 ⟨rfl,hx8⟩;have hx78:Ext w7 w8:=z_x;have S8:=aA (S7.out _ hx78);have HX78:=aA hx78;have zz8:wr.heap.size<w8.heap.size:=Nat.lt_of_lt_of_le hz7 hx78.size;clear hx8 hx78;go_wp2_with fail;refine hK.out _ _ (S8.out) (fun hK0=> ?_);clear hK K;try simp only[zz])
  iterate 1 (refine SeqH.fr2 ?_;try simp only[zz])
  (refine aP ?_;intro K hK;go_simp;refine(HRE.out _ (HX7.out.trans HX78.out) zz8).mono ?_;rintro e w9 ⟨rfl,sm9,t9⟩;have SM9:=aA sm9;have T9:=aA t9;have hrs:=aEu G v A2 x HST2.out;have S9:Hid ((fun W'=>CellsAt [(⟨w.heap.size,0,none⟩, .pointer (some ⟨sb,0,none⟩)),(⟨sb,6,none⟩, .map (some mg)),(⟨mb,0,none⟩, .int .i64 cx),(⟨mb,1,none⟩, .int .i64 cy)] W'∧(Instr.lookup 105 (.map (some mg)) (.int .i64 (v:Int)) false).run Tryz.prog W'= .ok (.int .u64 gv) W') w9):=aA ⟨CellsAt.touch t9 (by intro p hp;simp only[List.mem_cons,List.not_mem_nil,or_false]at hp;rcases hp with rfl|rfl|rfl|rfl;(·exact fun y=>HNSb.out (y.imp (fun z=>z.1) id));(·exact fun y=>y.elim (fun z=>SM.out.ns.1 z.1) (fun z=>z.elim n4 n5));(·exact fun y=>y.elim (fun z=>z.2 HMB.out.symm) (fun z=>by have:=HMB.out;have:mb=mg∨mb=mc:=z;omega));(·exact fun y=>y.elim (fun z=>z.2 HMB.out.symm) (fun z=>by have:=HMB.out;have:mb=mg∨mb=mc:=z;omega))) S8.out.1,by obtain⟨N1,_,a2⟩:=sm9.gm;exact a2.get_run gB HF.out (by rw[oZ (by have:=hrs.1;omega),hrs.2,HG2.out])⟩;have HRS:=aA hrs;clear sm9 t9 hrs;go_wp2_with fail;refine hK.out _ _ (S9.out) (fun hK0=> ?_);clear hK K;try simp only[zz])
  refine SeqH.done ?_
  have REL:Hid (∃(j':Nat) (A3:AS) (M3:Nat),Value.int .i64 ((j:Int)+1)= .int .i64 (j':Int)∧j'≤NB.length∧A3=rxs G v (A.settle v) ((G.adj v).take j')∧SInv G D s A3 (fun u x=>u=v∧x∈(G.adj v).drop j')∧A3.st v=2∧A3.g v=gv∧A3.cnt=A.cnt+1∧SMem w9 sb W H (some ⟨ab,aoff,none⟩) n c (vx W t) (vy W t) h mg mc A3.cnt S2 (kOf W hh A3) A3 M3∧M3≤M+j'∧Touch (fun j=>S2 j∨j=mg∨j=mc) w6 w9):=aA (by
   refine⟨j+1,rx G v A2 x,M2+1,by go_num,hlt,?_,?_,HRS.out.1,HRS.out.2.trans HG2.out,(aHo G v A2 x).trans HCN2.out,?_,by omega,?_⟩
   ·rw[pL HAX.out]
    unfold rxs
    rw[List.foldl_append]
    have:=HA2.out
    unfold rxs at this
    rw[←this]
    rfl
   ·refine(aDb I2.out FF.out (by rw[HGN.out];omega) HST2.out HOPX.out HMX.out).weaken (fun u y _ _ hp=>⟨hp.1.1,?_⟩)
    obtain⟨hk1,hk2⟩:=zJ HAX.out
    have hy:=hp.1.2
    rw[List.drop_eq_getElem_cons hk1,hk2]at hy
    exact(List.mem_cons.1 hy).resolve_left (fun e=>hp.2 ⟨hp.1.1,e⟩)
   ·rw[aHo]
    exact SM9.out.wide (fun k hk=>hk.1) ⟨SM.out.ns.1,SM.out.ns.2.1,SM.out.ns.2.2.1⟩
   exact(T6.out.trans (Touch.of_ext (HX7.out.trans HX78.out))).trans (T9.out.mono (fun k _ y=>y.imp (fun z=>z.1) id)))
  clear hK0
  go_wp2_with fail
  go_roundw
  case rel=>exact REL.out
  simp[intOf];omega
 obtain rfl:j=NB.length:=by omega
 have hfull:A2=kQ G A v:=by
  rw[HA2.out,List.take_of_length_le (by rw[HADJ.out,List.length_map];exact Nat.le_refl _)]
  rfl
 have IF:=aA (I2.out.weaken (pend':=fun _ _=>False) (fun u x _ _ hp=>by have:=hp.2;rw[List.drop_of_length_le (by rw[HADJ.out,List.length_map];exact Nat.le_refl _)]at this;cases this))
 have HAF:Hid (∀p cc k er,ARun G W hh t b A2 p cc k er→ARun G W hh t b A0 p cc k er):=aA (fun p cc k er r=>HA.out _ _ _ _ (ARun.next HB.out HBUD.out HVT.out (by rw[←hfull];exact r)))
 have hcn:=HCN2.out
 have SMF:=aA (SM.out.wide (S':=S1) (fun j hj=>by rw[HS2.out]at hj;exact hj.1) HS1n.out)
 have TTF:Hid (Touch (fun j=>S1 j∨j=sb∨j=mg∨j=mc) w1 wr):=aA (TT6.out.trans (T6.out.mono (fun j _ y=>y.elim (fun z=>by rw[HS2.out]at z;exact .inl z.1) (fun z=> .inr (.inr z)))))
 have HCN:=aA hcn
 clear hfull hcn
 go_wp2_with fail
 go_roundg (n-A2.cnt.toNat)
 case measure=>have:=HCN.out;omega
 exact⟨A2,M2,rfl,IF.out,SMF.out,by have:=HCN.out;omega,HAF.out,TTF.out⟩
end Go.Proofs.YtaellcgglldjaaaGreat

