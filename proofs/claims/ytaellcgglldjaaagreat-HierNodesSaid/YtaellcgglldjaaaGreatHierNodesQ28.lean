/- Part of a proof: StarF. -/
import Derived.Test.YtaellcgglldjaaaGreatHierNodesQ27
import Derived.Test.YtaellcgglldjaaaGreatHierNodesQ24
import Derived.Test.YtaellcgglldjaaaGreatHierNodesQ01
set_option linter.all false
set_option linter.unusedVariables false
set_option linter.unusedSimpArgs false
namespace Go.Proofs.YtaellcgglldjaaaGreat
open Go.RowKit
theorem zP {x:Int} (h1: -1000000000000000≤x) (h2:x≤1000000000000000):bH .i64 x:=by unfold bH;exact WalkArith.wf_i64 (by omega)
theorem oL {x:Int} (h1:0≤x) (h2:x≤1000000000000000):bH .u64 x:=by unfold bH;exact WalkArith.wf_u64 (by omega)
def gF (A:AS) (z:Int):Option Int:=if 0≤z∧A.st z.toNat≠0 then some (A.g z.toNat) else none
def cF (A:AS) (z:Int):Option Int:=if 0≤z∧A.st z.toNat≠0 then some (A.came z.toNat) else none
theorem sQ (A:AS) (m:Nat) (x c:Int) (z:Int):upd (gF A) (m:Int) x z=gF (A.put m x c) z:=by
 unfold upd gF AS.put bX jU
 simp only
 by_cases e:z=(m:Int)
 ·subst e
  rw[if_pos rfl,if_pos (by simp)]
  simp
 ·rw[if_neg e]
  by_cases h0:0≤z
  ·rw[if_neg (show ¬z.toNat=m by omega),if_neg (show ¬z.toNat=m by omega)]
  ·rw[if_neg (fun h=>h0 h.1),if_neg (fun h=>h0 h.1)]
theorem aGj (A:AS) (m:Nat) (x c:Int) (z:Int):upd (cF A) (m:Int) c z=cF (A.put m x c) z:=by
 unfold upd cF AS.put bX jU
 simp only
 by_cases e:z=(m:Int)
 ·subst e
  rw[if_pos rfl,if_pos (by simp)]
  simp
 ·rw[if_neg e]
  by_cases h0:0≤z
  ·rw[if_neg (show ¬z.toNat=m by omega),if_neg (show ¬z.toNat=m by omega)]
  ·rw[if_neg (fun h=>h0 h.1),if_neg (fun h=>h0 h.1)]
theorem oP {A:AS} {m:Nat} (h:A.st m≠0):gF A (m:Int)=some (A.g m):=by
 unfold gF
 rw[if_pos ⟨by omega,by simpa using h⟩]
 simp
theorem aM4 {A:AS} {m:Nat} (h:A.st m≠0):cF A (m:Int)=some (A.came m):=by
 unfold cF
 rw[if_pos ⟨by omega,by simpa using h⟩]
 simp
theorem aCp {A:AS} {m:Nat} (h:A.st m=0):gF A (m:Int)=none:=by
 unfold gF
 rw[if_neg (by simp[h])]
structure SMem (w:World) (sb:Nat) (W H:Int) (a:Option Addr) (n c:Nat) (tx ty:Int) (h mg mc:Nat) (k:Int) (S:Nat→Prop) (K:Nat→fD) (A:AS) (M:Nat):Prop where
 sea:gZ w sb W H a n c tx ty h mg mc k
 gm: ∃N,N≤M∧MapIn Tryz.prog KU w mg (gF A) N
 cm: ∃N,N≤M∧MapIn Tryz.prog KM w mc (cF A) N
 heap: ∃ts,HeapIs S w h ts∧HQ K A ts
 ns: ¬S sb∧ ¬S mg∧ ¬S mc∧sb≠mg∧sb≠mc∧mg≠mc
 nw: ∀j,w.heap.size≤j→S j
theorem SMem.ext {w w':World} {sb:Nat} {W H:Int} {a:Option Addr} {n c:Nat} {tx ty:Int} {h mg mc:Nat} {k:Int} {S:Nat→Prop} {K:Nat→fD} {A:AS} {M:Nat} (m:SMem w sb W H a n c tx ty h mg mc k S K A M) (hx:Ext w w'):SMem w' sb W H a n c tx ty h mg mc k S K A M where
 sea:=Blk.ext m.sea hx
 gm:=by obtain⟨N,h1,h2⟩:=m.gm;exact⟨N,h1,h2.ext hx⟩
 cm:=by obtain⟨N,h1,h2⟩:=m.cm;exact⟨N,h1,h2.ext hx⟩
 heap:=by obtain⟨ts,h1,h2⟩:=m.heap;exact⟨ts,h1.ext hx,h2⟩
 ns:=m.ns
 nw:=fun j hj=>m.nw j (Nat.le_trans hx.size hj)
theorem SMem.few {w:World} {sb:Nat} {W H:Int} {a:Option Addr} {n c:Nat} {tx ty:Int} {h mg mc:Nat} {k:Int} {S:Nat→Prop} {K:Nat→fD} {A:AS} {M M':Nat} (m:SMem w sb W H a n c tx ty h mg mc k S K A M) (hm:M≤M'):SMem w sb W H a n c tx ty h mg mc k S K A M':=
 {m with gm:=by obtain⟨N,h1,h2⟩:=m.gm;exact⟨N,Nat.le_trans h1 hm,h2⟩,cm:=by obtain⟨N,h1,h2⟩:=m.cm;exact⟨N,Nat.le_trans h1 hm,h2⟩}
set_option maxRecDepth 100000 in
set_option maxHeartbeats 1000000 in
theorem aAr {w:World} {sb:Nat} {W H:Int} {a:Option Addr} {n c:Nat} {tx ty:Int} {h mg mc:Nat} {k:Int} {S:Nat→Prop} {K:Nat→fD} {A:AS} {M:Nat} (m:SMem w sb W H a n c tx ty h mg mc k S K A M) {v:Nat} (hv:0≤vx W v∧vx W v≤1000∧0≤vy W v∧vy W v≤1000) (hW:1≤W∧W≤256) (hv64:(v:Int)≤1000000) (x from_:Int) (h0:A.st v≠0) (hx:A.g v≤x):
  Calls Tryz.prog 60 #[.pointer (some ⟨sb,0,none⟩), .agg #[.int .i64 (vx W v), .int .i64 (vy W v)], .int .u64 x, .int .i64 from_] w fun e w'=>e= .returned (.tuple #[])∧Ext w w':=by
 have HN:=aA (fun(w':World) (hx:Ext w w')=>jY (Blk.ext m.sea hx) (vx W v) (vy W v) (by omega) (by omega) (by omega))
 have hi:vy W v*W+vx W v=(v:Int):=by
  have:=bN (W:=W) (x:=vx W v) (y:=vy W v) hv.1 hW.1 hv.2.2.1
  rw[gD hW.1 v]at this
  exact this.symm
 rw[hi]at HN
 obtain⟨N,hN,hM⟩:=m.gm
 have HM:=aA hM
 have q6:w.cell? ⟨sb,6,none⟩=some (.map (some mg)):=m.sea.at 6 rfl
 have hz:sb<w.heap.size:=Blk.lt m.sea
 have HF:Hid (bH .i64 (v:Int)):=aA (cY (by omega))
 have HG:=aA (oP h0)
 generalize vx W v=X at *
 generalize vy W v=Y at *
 obtain⟨g0,hg0⟩: ∃z,A.g v=z:=⟨_,rfl⟩
 rw[hg0]at HG hx
 have hlt:decide (x<g0)=false:=by simpa using hx
 clear m hM hi h0 hg0 hx hv hN
 go_enter Tryz.func60,Tryz.ntmps60
 go_wp2_with fail
 refine(HN.out _ z_x).mono ?_
 rintro e w1 ⟨rfl,hb1⟩
 obtain⟨hc1,hf1⟩:=hb1.cells;have hz1:=hb1.size;(repeat(first|rw[World.size_alloc]at hz1|rw[World.size_drew]at hz1));have z1_0:w.heap.size<w1.heap.size:=(by omega)
 have q6':=(hb1.cell (p:=⟨sb,6,none⟩) (by simp;omega)).trans ((((Ext.refl w).alloc _).cell (p:=⟨sb,6,none⟩) hz).trans q6)
 have hx1:Ext w w1:=z_x
 have HX1:=aA hx1
 have hzw:w.heap.size<w1.heap.size:=z1_0
 clear q6 hb1 hx1 hc1 hf1 hz1
 go_wp2_with (at_lookup;refine dK _ fP rfl _ _ rfl mg N _ rfl (HM.out.ext HX1.out) (v:Int) rfl HF.out ?_;rw[HG.out];intro cc hcc;obtain rfl:=hcc _ rfl;clear hcc)
 simp only[show KU.qe=IntKind.u64 from rfl]
 refine aF (S:=(fun W=>(∀b o,b<w1.heap.size→W.cell? ⟨b,o,none⟩=w1.cell? ⟨b,o,none⟩)∧Ext w1 W)) [(0,true),(1,true),(2,true),(3,true),(4,true),(5,true),(6,true),(7,true),(8,true),(9,true),(10,true),(11,true),(12,true),(13,true),(14,true),(15,true),(16,true)] (by kernel_rfl) (by kernel_rfl) (by kernel_rfl) (by decide) (fun _ _ d _ _ h=>by cases d<;>exact h) (by first|with_reducible exact aI _|exact aE z_x) (fun hHeld=> ?_)
 iterate 17 (refine SeqH.fr1 ?_;try simp only[Act.put,z_3,z_4,z_5])
 refine SeqH.done ?_
 have hx2:=hHeld.2
 go_wp2_with fail
 exact bodyPost_ret (v:= .tuple #[]) (by simp[results,Tryz.results60,go_sem, *]) rfl ⟨rfl,HX1.out.trans hx2⟩
set_option maxRecDepth 100000 in
set_option maxHeartbeats 2000000 in
theorem tB {w:World} {sb:Nat} {W H:Int} {a:Option Addr} {n c:Nat} {tx ty:Int} {h mg mc:Nat} {k:Int} {S:Nat→Prop} {A:AS} {M:Nat} (hh:Nat→Int) (m:SMem w sb W H a n c tx ty h mg mc k S (kOf W hh A) A M) (hM:M≤900000) {v:Nat} (hv:0≤vx W v∧vx W v≤1000∧0≤vy W v∧vy W v≤1000) (hW:1≤W∧W≤256) (htx:0≤tx∧tx≤1000) (hty:0≤ty∧ty≤1000) (hv64:(v:Int)≤100000) (hvh:hh v=dD (vx W v) (vy W v) tx ty) (hop: ∀u,A.st u≠0→u<100000) (x from_:Int) (hx:0≤x∧x≤1000000000000) (hfr: -1≤from_∧from_≤1000000) (h0:A.st v=0):
  Calls Tryz.prog 60 #[.pointer (some ⟨sb,0,none⟩), .agg #[.int .i64 (vx W v), .int .i64 (vy W v)], .int .u64 x, .int .i64 from_] w fun e w'=>e= .returned (.tuple #[])∧SMem w' sb W H a n c tx ty h mg mc k S (kOf W hh (A.put v x from_)) (A.put v x from_) (M+1)∧Touch (fun j=>S j∨j=mg∨j=mc) w w':=by
 have HN:=aA (fun(w':World) (hx:Ext w w')=>jY (Blk.ext m.sea hx) (vx W v) (vy W v) (by omega) (by omega) (by omega))
 have HK:=aA (fun(w':World) (hx':Ext w w')=>yZ (Blk.ext m.sea hx') (vx W v) (vy W v) x (by omega) (by omega) htx hty hx)
 have hi:vy W v*W+vx W v=(v:Int):=by
  have:=bN (W:=W) (x:=vx W v) (y:=vy W v) hv.1 hW.1 hv.2.2.1
  rw[gD hW.1 v]at this
  exact this.symm
 rw[hi]at HN
 have hkey:kOf W hh (A.put v x from_) v=((x+dD (vx W v) (vy W v) tx ty,dD (vx W v) (vy W v) tx ty),(vy W v,vx W v)):=by
  unfold kOf
  rw[hvh]
  simp[AS.put,jU]
 rw[←hkey]at HK
 have hother: ∀u,u≠v→kOf W hh (A.put v x from_) u=kOf W hh A u:=fun u hu=>by
  unfold kOf
  rw[show(A.put v x from_).g u=A.g u from iO _ _ hu]
 obtain⟨N,hN,hMg⟩:=m.gm
 obtain⟨N2,hN2,hMc⟩:=m.cm
 obtain⟨ts,hts,hq⟩:=m.heap
 have hfew:=hq.few hop
 have hvq:(v:Int)∉ids ts:=fun hm=>by have:=hq.ids_st hm;omega
 have HF:Hid (bH .i64 (v:Int)):=aA (cY (by omega))
 have hts1:HeapIs (fun j=>S j∧j≠w.heap.size) w h ts:=hts.mono (fun j hj hS=>⟨hS,by omega⟩)
 have HP:=aA (fun(w':World) (hx:Ext w w') (hz:w.heap.size<w'.heap.size)=>oQ (S:=fun j=>S j∧j≠w.heap.size) (fun j hj=>⟨m.nw j (Nat.le_trans hx.size hj),by omega⟩) (hts1.ext hx) (by omega) ((v:Int),kOf W hh (A.put v x from_) v) hvq HF.out)
 have HQQ:=aA hq
 have HOT:=aA hother
 have MM:=aA m
 have HMG:=aA hMg
 have HMC:=aA hMc
 have q6:w.cell? ⟨sb,6,none⟩=some (.map (some mg)):=m.sea.at 6 rfl
 have hz:sb<w.heap.size:=Blk.lt m.sea
 have HG:=aA (aCp h0)
 have HV0:=aA h0
 obtain⟨X,hX⟩: ∃z,vx W v=z:=⟨_,rfl⟩
 obtain⟨Y,hY⟩: ∃z,vy W v=z:=⟨_,rfl⟩
 rw[hX,hY]at HN HK⊢
 obtain⟨KV,hKV⟩: ∃z,kOf W hh (A.put v x from_) v=z:=⟨_,rfl⟩
 have HKV:=aA hKV
 rw[hKV]at HK HP
 clear m hMg hMc hi h0 hq hv hts hts1 hother hkey hX hY hKV hvq hvh
 go_enter Tryz.func60,Tryz.ntmps60
 go_wp2_with fail
 refine(HN.out _ z_x).mono ?_
 rintro e w1 ⟨rfl,hb1⟩
 have B1:Hid (Blk w1 (w.heap.size) 28 #[.int .i64 X, .int .i64 Y]):=aA (by refine Blk.ext ?_ hb1;(repeat' (first|exact Blk.new_ (by simp)|refine Blk.drew ?_|refine Blk.over ?_)))
 have hx1:Ext w w1:=z_x
 have q6':=(hx1.cell (p:=⟨sb,6,none⟩) hz).trans q6
 have HX1:=aA hx1
 have zs1:sb<w1.heap.size:=Nat.lt_of_lt_of_le hz hx1.size
 clear q6 hb1 hx1
 go_wp2_with (at_lookup;refine dK _ fP rfl _ _ rfl mg N _ rfl (HMG.out.ext HX1.out) (v:Int) rfl HF.out ?_;rw[HG.out];intro cc hcc;clear hcc)
 simp only[show KU.qe=IntKind.u64 from rfl]
 have q5:w1.cell? ⟨sb,5,none⟩=some (.pointer (some ⟨h,0,none⟩)):=(HX1.out.cell (p:=⟨sb,5,none⟩) hz).trans (MM.out.sea.at 5 rfl)
 have L1:Hid (CellsAt [(⟨sb,5,none⟩, .pointer (some ⟨h,0,none⟩)),(⟨w.heap.size,0,none⟩, .int .i64 X),(⟨w.heap.size,1,none⟩, .int .i64 Y)] w1):=aA ⟨q5,B1.out.at 0 rfl,B1.out.at 1 rfl,trivial⟩
 clear q5 q6' zs1
 go_wp2_with fail
 refine aF (S:=(CellsAt [(⟨sb,5,none⟩, .pointer (some ⟨h,0,none⟩)),(⟨w.heap.size,0,none⟩, .int .i64 X),(⟨w.heap.size,1,none⟩, .int .i64 Y)])) [(0,true),(1,true),(2,true),(3,true),(4,true),(5,true),(6,true),(7,true),(8,false),(9,false)] (by kernel_rfl) (by kernel_rfl) (by kernel_rfl) (by decide) (fun _ _ d _ _ h=>by cases d<;>exact h) (CellsAt.ext ((Ext.refl _).drew) L1.out) (fun hHeld=> ?_)
 iterate 8 (refine SeqH.fr2 ?_;try simp only[Act.put,z_3,z_4,z_5])
 (apply SeqH.step;(·(simp only[z_0,z_1,z_2];rfl));intro K hK;go_simp;refine(HK.out _ (HX1.out.trans z_x)).mono ?_;rintro e w2 ⟨rfl,hb2⟩;have hx2:Ext w1 w2:=z_x;have L2:=aA (L1.out.ext hx2);have HX2:=aA (HX1.out.trans hx2);have zw2:w.heap.size<w2.heap.size:=Nat.lt_of_lt_of_le B1.out.lt hx2.size;clear hb2 hx2;go_wp2_with fail;refine hK.out _ _ (L2.out) (fun hHeld=> ?_);clear hK K;try simp only[Act.put,z_3,z_4,z_5])
 (apply SeqH.step;(·(simp only[z_0,z_1,z_2];rfl));intro K hK;go_simp;refine(HP.out _ HX2.out zw2).mono ?_;rintro e w3 ⟨rfl,ts3,h3,p3,t3⟩;have H3:=aA h3;have P3:=aA p3;have T3:=aA t3;have hns:=MM.out.ns;have L3:=aA (L2.out.touch t3 (by intro p hp;simp only[List.mem_cons,List.not_mem_nil,or_false]at hp;rcases hp with rfl|rfl|rfl;(·exact fun h=>hns.1 h.1);(·exact fun h=>h.2 rfl);(·exact fun h=>h.2 rfl)));clear h3 p3 t3 hns;go_wp2_with fail;refine hK.out _ _ (L3.out) (fun hHeld=> ?_);clear hK K;try simp only[Act.put,z_3,z_4,z_5])
 refine SeqH.done ?_
 obtain⟨n1,n2,n3,n4,n5,n6⟩:=MM.out.ns
 have M3g:MapIn Tryz.prog KU w3 mg (gF A) N:=(HMG.out.ext HX2.out).touch T3.out (fun h=>n2 h.1)
 have M3c:MapIn Tryz.prog KM w3 mc (cF A) N2:=(HMC.out.ext HX2.out).touch T3.out (fun h=>n3 h.1)
 have S3:gZ w3 sb W H a n c tx ty h mg mc k:=Blk.touch (Blk.ext MM.out.sea HX2.out) T3.out (fun h=>n1 h.1)
 have hzw:=HX2.out.size
 have hz3:=T3.out.size
 obtain⟨v0,st0,w4,w5,r4,_,r5,m5,t5⟩:=M3g.drew.entry fP (x:=(v:Int)) (c:=x) HF.out (oL hx.1 (by omega)) (by omega)
 have m5c:MapIn Tryz.prog KM w5 mc (cF A) N2:=M3c.drew.touch t5 (fun h=>n6 h.symm)
 obtain⟨v1,st1,w6,w7,r6,_,r7,m7,t7⟩:=m5c.entry lA (x:=(v:Int)) (c:=from_) HF.out (zP (by omega) (by omega)) (by omega)
 have t37:Touch (fun j=>j=mg∨j=mc) w3 w7:=((Touch.refl _ w3).drew.trans (t5.mono (fun j _ h=> .inl h))).trans (t7.mono (fun j _ h=> .inr h))
 have FIN:Hid (SMem w7 sb W H a n c tx ty h mg mc k S (kOf W hh (A.put v x from_)) (A.put v x from_) (M+1)∧Touch (fun j=>S j∨j=mg∨j=mc) w w7):=aA ⟨{
   sea:=Blk.touch S3 t37 (fun h=>h.elim n4 n5)
   gm:=⟨_,by split<;>omega,(m5.congr (sQ A v x from_)).touch t7 (fun h=>n6 h)⟩
   cm:=⟨_,by split<;>omega,m7.congr (aGj A v x from_)⟩
   heap:=⟨ts3,(H3.out.mono (fun j _ h=>h.1)).touch t37 (fun j hj h=>h.elim (fun e=>n2 (e▸hj)) (fun e=>n3 (e▸hj))),HQQ.out.push HV0.out HOT.out (by rw[HKV.out];exact P3.out)⟩
   ns:=MM.out.ns
   nw:=fun j hj=>MM.out.nw j (by have:=t37.size;omega)},((Touch.of_ext HX2.out).trans (T3.out.mono (fun j _ h=> .inl h.1))).trans (t37.mono (fun j _ h=> .inr h))⟩
 simp only[KU]at r4 r5
 simp only[KM]at r6 r7
 have e0:w3.cell? ⟨sb,6,none⟩=some (.map (some mg)):=S3.at 6 rfl
 have e1:w3.cell? ⟨sb,7,none⟩=some (.map (some mc)):=S3.at 7 rfl
 clear M3g M3c S3 m5 m5c m7 t5 t7 t37 hHeld n1 n2 n3 n4 n5 n6
 go_wp2_with fail
 go_region
 go_end0
 exact⟨rfl,FIN.out.1,FIN.out.2⟩
set_option maxRecDepth 100000 in
set_option maxHeartbeats 2000000 in
theorem zW {w:World} {sb:Nat} {W H:Int} {a:Option Addr} {n c:Nat} {tx ty:Int} {h mg mc:Nat} {k:Int} {S:Nat→Prop} {A:AS} {M:Nat} (hh:Nat→Int) (m:SMem w sb W H a n c tx ty h mg mc k S (kOf W hh A) A M) (hM:M≤900000) {v:Nat} (hv:0≤vx W v∧vx W v≤1000∧0≤vy W v∧vy W v≤1000) (hW:1≤W∧W≤256) (htx:0≤tx∧tx≤1000) (hty:0≤ty∧ty≤1000) (hv64:(v:Int)≤100000) (hvh:hh v=dD (vx W v) (vy W v) tx ty) (hop: ∀u,A.st u≠0→u<100000) (x from_:Int) (hx:0≤x∧x≤1000000000000) (hfr: -1≤from_∧from_≤1000000) (h1:A.st v=1) (hlt:x<A.g v):
  Calls Tryz.prog 60 #[.pointer (some ⟨sb,0,none⟩), .agg #[.int .i64 (vx W v), .int .i64 (vy W v)], .int .u64 x, .int .i64 from_] w fun e w'=>e= .returned (.tuple #[])∧SMem w' sb W H a n c tx ty h mg mc k S (kOf W hh (A.put v x from_)) (A.put v x from_) (M+1)∧Touch (fun j=>S j∨j=mg∨j=mc) w w':=by
 have HN:=aA (fun(w':World) (hx:Ext w w')=>jY (Blk.ext m.sea hx) (vx W v) (vy W v) (by omega) (by omega) (by omega))
 have HK:=aA (fun(w':World) (hx':Ext w w')=>yZ (Blk.ext m.sea hx') (vx W v) (vy W v) x (by omega) (by omega) htx hty hx)
 have hi:vy W v*W+vx W v=(v:Int):=by
  have:=bN (W:=W) (x:=vx W v) (y:=vy W v) hv.1 hW.1 hv.2.2.1
  rw[gD hW.1 v]at this
  exact this.symm
 rw[hi]at HN
 have hkey:kOf W hh (A.put v x from_) v=((x+dD (vx W v) (vy W v) tx ty,dD (vx W v) (vy W v) tx ty),(vy W v,vx W v)):=by
  unfold kOf
  rw[hvh]
  simp[AS.put,jU]
 rw[←hkey]at HK
 have hother: ∀u,u≠v→kOf W hh (A.put v x from_) u=kOf W hh A u:=fun u hu=>by
  unfold kOf
  rw[show(A.put v x from_).g u=A.g u from iO _ _ hu]
 obtain⟨N,hN,hMg⟩:=m.gm
 obtain⟨N2,hN2,hMc⟩:=m.cm
 obtain⟨ts,hts,hq⟩:=m.heap
 have hfew:=hq.few hop
 obtain⟨kk,hkk,hat⟩:=hq.waits h1
 have hless:bI (kOf W hh (A.put v x from_) v) (tat ts kk).2=true:=by
  rw[hat,hkey]
  refine lessB_iff.2 (.inl ?_)
  unfold kOf
  simp only
  rw[hvh]
  omega
 have HF:Hid (bH .i64 (v:Int)):=aA (cY (by omega))
 have hts1:HeapIs (fun j=>S j∧j≠w.heap.size) w h ts:=hts.mono (fun j hj hS=>⟨hS,by omega⟩)
 have HP:=aA (fun(w':World) (hx:Ext w w')=>pC (S:=fun j=>S j∧j≠w.heap.size) (hts1.ext hx) (by omega) hkk ((v:Int),kOf W hh (A.put v x from_) v) (by rw[hat]) hless)
 have HKK:=aA hkk
 have HAT:=aA hat
 have HQQ:=aA hq
 have HOT:=aA hother
 have MM:=aA m
 have HMG:=aA hMg
 have HMC:=aA hMc
 have q6:w.cell? ⟨sb,6,none⟩=some (.map (some mg)):=m.sea.at 6 rfl
 have hz:sb<w.heap.size:=Blk.lt m.sea
 have HG:=aA (oP (A:=A) (m:=v) (by omega))
 have HV0:=aA h1
 obtain⟨g0,hg0⟩: ∃z,A.g v=z:=⟨_,rfl⟩
 rw[hg0]at HG hlt
 have hlt2:decide (x<g0)=true:=by simpa using hlt
 obtain⟨X,hX⟩: ∃z,vx W v=z:=⟨_,rfl⟩
 obtain⟨Y,hY⟩: ∃z,vy W v=z:=⟨_,rfl⟩
 rw[hX,hY]at HN HK⊢
 obtain⟨KV,hKV⟩: ∃z,kOf W hh (A.put v x from_) v=z:=⟨_,rfl⟩
 have HKV:=aA hKV
 rw[hKV]at HK HP
 clear m hMg hMc hi h1 hq hv hts hts1 hother hkey hX hY hKV hvh hat hless hkk hg0 hlt
 go_enter Tryz.func60,Tryz.ntmps60
 go_wp2_with fail
 refine(HN.out _ z_x).mono ?_
 rintro e w1 ⟨rfl,hb1⟩
 have B1:Hid (Blk w1 (w.heap.size) 28 #[.int .i64 X, .int .i64 Y]):=aA (by refine Blk.ext ?_ hb1;(repeat' (first|exact Blk.new_ (by simp)|refine Blk.drew ?_|refine Blk.over ?_)))
 have hx1:Ext w w1:=z_x
 have q6':=(hx1.cell (p:=⟨sb,6,none⟩) hz).trans q6
 have HX1:=aA hx1
 have zs1:sb<w1.heap.size:=Nat.lt_of_lt_of_le hz hx1.size
 clear q6 hb1 hx1
 go_wp2_with (at_lookup;refine dK _ fP rfl _ _ rfl mg N _ rfl (HMG.out.ext HX1.out) (v:Int) rfl HF.out ?_;rw[HG.out];intro cc hcc;obtain rfl:=hcc _ rfl;clear hcc)
 simp only[show KU.qe=IntKind.u64 from rfl]
 have q5:w1.cell? ⟨sb,5,none⟩=some (.pointer (some ⟨h,0,none⟩)):=(HX1.out.cell (p:=⟨sb,5,none⟩) hz).trans (MM.out.sea.at 5 rfl)
 have L1:Hid (CellsAt [(⟨sb,5,none⟩, .pointer (some ⟨h,0,none⟩)),(⟨w.heap.size,0,none⟩, .int .i64 X),(⟨w.heap.size,1,none⟩, .int .i64 Y)] w1):=aA ⟨q5,B1.out.at 0 rfl,B1.out.at 1 rfl,trivial⟩
 clear q5 q6' zs1
 go_wp2_with fail
 refine aF (S:=(CellsAt [(⟨sb,5,none⟩, .pointer (some ⟨h,0,none⟩)),(⟨w.heap.size,0,none⟩, .int .i64 X),(⟨w.heap.size,1,none⟩, .int .i64 Y)])) [(0,true),(1,true),(2,true),(3,true),(4,true),(5,true),(6,true),(7,true),(8,true),(9,true),(10,true),(11,true),(12,false),(13,false),(14,true),(15,true),(16,true)] (by kernel_rfl) (by kernel_rfl) (by kernel_rfl) (by decide) (fun _ _ d _ _ h=>by cases d<;>exact h) (CellsAt.ext ((Ext.refl _).drew) L1.out) (fun hHeld=> ?_)
 iterate 12 (refine SeqH.fr2 ?_;try simp only[Act.put,z_3,z_4,z_5])
 (apply SeqH.step;(·(simp only[z_0,z_1,z_2];rfl));intro K hK;go_simp;refine(HK.out _ (HX1.out.trans z_x)).mono ?_;rintro e w2 ⟨rfl,hb2⟩;have hx2:Ext w1 w2:=z_x;have L2:=aA (L1.out.ext hx2);have HX2:=aA (HX1.out.trans hx2);have zw2:w.heap.size<w2.heap.size:=Nat.lt_of_lt_of_le B1.out.lt hx2.size;clear hb2 hx2;go_wp2_with fail;refine hK.out _ _ (L2.out) (fun hHeld=> ?_);clear hK K;try simp only[Act.put,z_3,z_4,z_5])
 (apply SeqH.step;(·(simp only[z_0,z_1,z_2];rfl));intro K hK;go_simp;refine(HP.out _ HX2.out).mono ?_;rintro e w3 ⟨rfl,ts3,h3,p3,t3⟩;have H3:=aA h3;have P3:=aA p3;have T3:=aA t3;have hns:=MM.out.ns;have L3:=aA (L2.out.touch t3 (by intro p hp;simp only[List.mem_cons,List.not_mem_nil,or_false]at hp;rcases hp with rfl|rfl|rfl;(·exact fun h=>hns.1 h.1);(·exact fun h=>h.2 rfl);(·exact fun h=>h.2 rfl)));clear h3 p3 t3 hns;go_wp2_with fail;refine hK.out _ _ (L3.out) (fun hHeld=> ?_);clear hK K;try simp only[Act.put,z_3,z_4,z_5])
 iterate 3 (refine SeqH.fr2 ?_;try simp only[Act.put,z_3,z_4,z_5])
 refine SeqH.done ?_
 obtain⟨n1,n2,n3,n4,n5,n6⟩:=MM.out.ns
 have M3g:MapIn Tryz.prog KU w3 mg (gF A) N:=(HMG.out.ext HX2.out).touch T3.out (fun h=>n2 h.1)
 have M3c:MapIn Tryz.prog KM w3 mc (cF A) N2:=(HMC.out.ext HX2.out).touch T3.out (fun h=>n3 h.1)
 have S3:gZ w3 sb W H a n c tx ty h mg mc k:=Blk.touch (Blk.ext MM.out.sea HX2.out) T3.out (fun h=>n1 h.1)
 have hzw:=HX2.out.size
 have hz3:=T3.out.size
 obtain⟨v0,st0,w4,w5,r4,_,r5,m5,t5⟩:=M3g.drew.entry fP (x:=(v:Int)) (c:=x) HF.out (oL hx.1 (by omega)) (by omega)
 have m5c:MapIn Tryz.prog KM w5 mc (cF A) N2:=M3c.drew.touch t5 (fun h=>n6 h.symm)
 obtain⟨v1,st1,w6,w7,r6,_,r7,m7,t7⟩:=m5c.entry lA (x:=(v:Int)) (c:=from_) HF.out (zP (by omega) (by omega)) (by omega)
 have t37:Touch (fun j=>j=mg∨j=mc) w3 w7:=((Touch.refl _ w3).drew.trans (t5.mono (fun j _ h=> .inl h))).trans (t7.mono (fun j _ h=> .inr h))
 have FIN:Hid (SMem w7 sb W H a n c tx ty h mg mc k S (kOf W hh (A.put v x from_)) (A.put v x from_) (M+1)∧Touch (fun j=>S j∨j=mg∨j=mc) w w7):=aA ⟨{
   sea:=Blk.touch S3 t37 (fun h=>h.elim n4 n5)
   gm:=⟨_,by split<;>omega,(m5.congr (sQ A v x from_)).touch t7 (fun h=>n6 h)⟩
   cm:=⟨_,by split<;>omega,m7.congr (aGj A v x from_)⟩
   heap:=⟨ts3,(H3.out.mono (fun j _ h=>h.1)).touch t37 (fun j hj h=>h.elim (fun e=>n2 (e▸hj)) (fun e=>n3 (e▸hj))),HQQ.out.lower HV0.out HKK.out HAT.out HOT.out (by rw[HKV.out];exact P3.out)⟩
   ns:=MM.out.ns
   nw:=fun j hj=>MM.out.nw j (by have:=t37.size;omega)},((Touch.of_ext HX2.out).trans (T3.out.mono (fun j _ h=> .inl h.1))).trans (t37.mono (fun j _ h=> .inr h))⟩
 simp only[KU]at r4 r5
 simp only[KM]at r6 r7
 have e0:w3.cell? ⟨sb,6,none⟩=some (.map (some mg)):=S3.at 6 rfl
 have e1:w3.cell? ⟨sb,7,none⟩=some (.map (some mc)):=S3.at 7 rfl
 clear M3g M3c S3 m5 m5c m7 t5 t7 t37 hHeld n1 n2 n3 n4 n5 n6
 go_wp2_with fail
 go_region
 go_end0
 exact⟨rfl,FIN.out.1,FIN.out.2⟩
end Go.Proofs.YtaellcgglldjaaaGreat

