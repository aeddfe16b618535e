/- Part of a proof: HierN. -/
import Derived.Test.YtaellcgglldjaaaGreatHierFindsQ29
import Derived.Test.YtaellcgglldjaaaGreatHierFindsQ30
import Derived.Test.YtaellcgglldjaaaGreatHierFindsQ22
import Derived.Test.YtaellcgglldjaaaGreatHierFindsQ37
set_option linter.all false
set_option linter.unusedVariables false
set_option linter.unusedSimpArgs false
namespace Go.Proofs.YtaellcgglldjaaaGreat
open Go.RowKit Go.ChangeMaps Go.MapKept Go.WideElems
open Go.Maps (Keyed)
theorem zM:Keyed Tryz.prog 3:=Maps.int_keyed Tryz.underlying3
theorem aB2 (w:World):(zeroValue 56).run Tryz.prog w= .ok (.agg #[.int .i64 0, .int .i64 0, .int .i64 0, .int .i64 0, .int .u64 0]) w:=by kernel_rfl
def MapL (w:World) (b:Nat) (f:Int→Option Value) (N:Nat):Prop:=
 ∃D:DataW Value,w.ownsMap Tryz.prog 3 xP b N D∧Maps.size D=N∧ ∀x,Maps.has D (.int .i64 x)=(f x).isSome∧ ∀v z,f x=some v→D.atKey (.int .i64 x) z= .held v
def aAx (f:Int→Option Value) (x:Int) (v:Value) (y:Int):Option Value:=if y=x then some v else f y
section
variable {w w':World} {b N:Nat} {f:Int→Option Value}
theorem MapL.made (w:World):MapL (w.alloc (.map #[] 0)) w.heap.size (fun _=>none) 0:=
 ⟨.map [],World.ownsMap_made _ _ _ _,rfl,fun x=>⟨rfl,fun v z h=>by cases h⟩⟩
theorem MapL.lt (h:MapL w b f N):b<w.heap.size:=by obtain⟨D,h,_⟩:=h;exact h.lt
theorem MapL.touch {S:Nat→Prop} (h:MapL w b f N) (t:Touch S w w') (hs: ¬S b):MapL w' b f N:=by
 obtain⟨D,h1,h2⟩:=h
 exact⟨D,lN h1 t hs,h2⟩
theorem MapL.ext (h:MapL w b f N) (t:Ext w w'):MapL w' b f N:=h.touch (Touch.of_ext (S:=fun _=>False) t) (fun x=>x)
theorem MapL.drew (h:MapL w b f N):MapL w.drew b f N:=h
theorem MapL.get (h:MapL w b f N) {x:Int} {v:Value} (hx:bN .i64 x) (hf:f x=some v):
  (Instr.lookup 106 (.map (some b)) (.int .i64 x) false).run Tryz.prog w= .ok v w:=by
 obtain⟨D,h1,h2,h3⟩:=h
 obtain⟨u,ps,hrun,hu⟩:=h1.lookup zM Tryz.underlying106 (aB2 w) (zd:= .held (.agg #[.int .i64 0, .int .i64 0, .int .i64 0, .int .i64 0, .int .u64 0])) (zp:=[]) rfl (Maps.keyOf_int_mk Tryz.underlying3 hx)
 rw[(h3 x).2 v _ hf]at hu
 have:u=v:=by unfold xP at hu;simp at hu;exact hu.1
 rw[hrun,this]
theorem MapL.entry (h:MapL w b f N) {x:Int} (hx:bN .i64 x) (v:Value) (hN:N≤1000000):
  ∃(v0:Value) (st:Nat) (w1 w2:World),(Instr.mapEntry 106 (.map (some b)) (.int .i64 x)).run Tryz.prog w= .ok (.tuple #[v0, .int .i64 st]) w1∧Touch (fun k=>k=b) w w1∧
   (Instr.entryStore 106 (.map (some b)) (.int .i64 st) v).run Tryz.prog w1= .ok () w2∧MapL w2 b (aAx f x v) (if(f x).isSome then N else N+1)∧Touch (fun k=>k=b) w w2:=by
 obtain⟨D,h1,h2,h3⟩:=h
 have tidy:=h1.tidy zM
 obtain⟨v0,st,w1,w2,e1,t1,e2,o2,t2⟩:=vQ h1 zM Tryz.underlying106 aB2 (by unfold maxLen;omega) (Maps.keyOf_int_mk Tryz.underlying3 hx) (val:=v) (d:= .held v) (ps:=[]) rfl
 refine⟨v0,st,w1,w2,e1,eZ t1 rfl,e2,?_,eZ t2 rfl⟩
 have e:Maps.size (D.put (.int .i64 x) (.held v))=if(f x).isSome then N else N+1:=by
  rw[Maps.size_put tidy,(h3 x).1,h2]
 refine⟨_,e▸nP o2,e,fun y=> ?_⟩
 unfold aAx
 by_cases hy:y=x
 ·subst hy
  rw[Maps.has_put_same tidy.isMap aE5]
  simp only[if_true]
  exact⟨rfl,fun u z hu=>by cases hu;exact Maps.atKey_put_same tidy.isMap aE5 _ _⟩
 have hne:(Lit.int .i64 y)≠ .int .i64 x:=by simpa using hy
 rw[Maps.has_put_other hne]
 simp only[if_neg hy]
 exact⟨(h3 y).1,fun u z hu=>by rw[Maps.atKey_put_other hne];exact(h3 y).2 u z hu⟩
end
def oc (A:AS) (n:Nat):Nat:=(List.range n).countP (fun v=>decide (A.st v≠0))
theorem aMx (A:AS) (n:Nat):oc A n≤n:=by
 have h:=List.countP_le_length (p:=fun v=>decide (A.st v≠0)) (l:=List.range n)
 rwa [List.length_range]at h
theorem aDr {p q:Nat→Bool} {v n:Nat} (hv:v<n) (hp:p v=false) (hq:q v=true) (h: ∀u,u≠v→q u=p u):(List.range n).countP q=(List.range n).countP p+1:=by
 have hm: ∀l:List Nat,l.Nodup→l.countP q=l.countP p+if v∈l then 1 else 0:=by
  intro l
  induction l with
  |nil=>intro _;rfl
  |cons a l ih=>
   intro hnd
   obtain⟨n1,n2⟩:=List.nodup_cons.1 hnd
   rw[List.countP_cons,List.countP_cons,ih n2]
   by_cases e:a=v
   ·subst e
    rw[hp,hq,if_neg n1]
    simp
   have e2: ¬v=a:=fun h=>e h.symm
   rw[h a e]
   by_cases hm:v∈l
   ·rw[if_pos hm,if_pos (List.mem_cons_of_mem a hm)];omega
   have hm2: ¬v∈a::l:=fun h=>(List.mem_cons.1 h).elim e2 hm
   rw[if_neg hm,if_neg hm2];omega
 rw[hm _ List.nodup_range,if_pos (List.mem_range.2 hv)]
theorem aH6 {A:AS} {v n:Nat} (x c:Int) (hv:v<n) (h0:A.st v=0):oc (A.put v x c) n=oc A n+1:=by
 unfold oc
 refine aDr hv (by simp[h0]) ?_ fun u hu=> ?_
 ·show decide (bS A.st v 1 v≠0)=true
  rw[cC];rfl
 show decide (bS A.st v 1 u≠0)=_
 rw[fA _ _ hu]
theorem aH7 {A:AS} {v n:Nat} (x c:Int) (h0:A.st v≠0):oc (A.put v x c) n=oc A n:=by
 unfold oc
 refine List.countP_congr fun u _=> ?_
 show decide (bS A.st v 1 u≠0)=true↔_
 by_cases e:u=v
 ·subst e;rw[cC];simp[h0]
 rw[fA _ _ e]
theorem wI {A:AS} {v n:Nat} (h0:A.st v≠0):oc (A.settle v) n=oc A n:=by
 unfold oc
 refine List.countP_congr fun u _=> ?_
 show decide (bS A.st v 2 u≠0)=true↔_
 by_cases e:u=v
 ·subst e;rw[cC];simp[h0]
 rw[fA _ _ e]
def CameOk (W:Int) (A:AS) (f:Int→Option Value):Prop:=
 (∀v:Nat,A.st v=0→f (v:Int)=none)∧ ∀v:Nat,A.st v≠0→ ∃(a:aB) (x:Int),f (v:Int)=some (cD a (aG W v) x)∧ ∀u:Nat,A.came v=(u:Int)→a=aG W u
theorem CameOk.put {W:Int} {A:AS} {f:Int→Option Value} (h:CameOk W A f) (v:Nat) (a:aB) (x g c:Int) (hc: ∀u:Nat,c=(u:Int)→a=aG W u):CameOk W (A.put v g c) (aAx f (v:Int) (cD a (aG W v) x)):=by
 have hst: ∀u,(A.put v g c).st u=if u=v then 1 else A.st u:=fun u=>rfl
 have hcm: ∀u,(A.put v g c).came u=if u=v then c else A.came u:=fun u=>rfl
 refine⟨fun u hu=> ?_,fun u hu=> ?_⟩
 ·rw[hst]at hu
  unfold aAx
  by_cases e:u=v
  ·rw[if_pos e]at hu;omega
  rw[if_neg e]at hu
  rw[if_neg (by omega)]
  exact h.1 u hu
 rw[hst]at hu
 unfold aAx
 by_cases e:u=v
 ·subst e
  rw[if_pos rfl]
  exact⟨a,x,rfl,fun u' hu'=>hc u' (by rw[hcm,if_pos rfl]at hu';exact hu')⟩
 rw[if_neg e]at hu
 rw[if_neg (by omega)]
 obtain⟨a',x',h1,h2⟩:=h.2 u hu
 exact⟨a',x',h1,fun u' hu'=>h2 u' (by rw[hcm,if_neg e]at hu';exact hu')⟩
structure HMem (w:World) (sb lb h mg mc:Nat) (W:Int) (n:Nat) (S:Nat→Prop) (A:AS):Prop where
 sea:Blk w sb 108 #[.pointer (some ⟨lb,0,none⟩), .pointer (some ⟨h,0,none⟩), .map (some mg), .map (some mc)]
 gm: ∃N,N≤oc A n∧MapIn Tryz.prog KU w mg (gF A) N
 cm: ∃N f,N≤oc A n∧MapL w mc f N∧CameOk W A f
 heap: ∃ts,HeapIs S w h ts∧HQ (kOf W (fun _=>0) A) A ts
 ns: ¬S sb∧ ¬S mg∧ ¬S mc∧sb≠mg∧sb≠mc∧mg≠mc
 nw: ∀j,w.heap.size≤j→S j
section
variable {w w':World} {sb lb h mg mc:Nat} {W:Int} {n:Nat} {S:Nat→Prop} {A:AS}
theorem HMem.ext (m:HMem w sb lb h mg mc W n S A) (hx:Ext w w'):HMem w' sb lb h mg mc W n S A where
 sea:=m.sea.ext hx
 gm:=by obtain⟨N,h1,h2⟩:=m.gm;exact⟨N,h1,h2.ext hx⟩
 cm:=by obtain⟨N,f,h1,h2,h3⟩:=m.cm;exact⟨N,f,h1,h2.ext hx,h3⟩
 heap:=by obtain⟨ts,h1,h2⟩:=m.heap;exact⟨ts,h1.ext hx,h2⟩
 ns:=m.ns
 nw:=fun j hj=>m.nw j (Nat.le_trans hx.size hj)
end
theorem aE3 {W:Int} {A:AS} {v u:Nat} (x c:Int) (hu:u≠v):kOf W (fun _=>0) (A.put v x c) u=kOf W (fun _=>0) A u:=by
 unfold kOf
 rw[show(A.put v x c).g u=A.g u from gZ _ _ hu]
theorem aJd (W:Int) (A:AS) (v:Nat) (x c:Int):kOf W (fun _=>0) (A.put v x c) v=((x,0),(vy W v,vx W v)):=by
 unfold kOf
 rw[show(A.put v x c).g v=x from wY _ _ _]
 simp
section
variable {w0 w:World} {sb lb h mg mc:Nat} {p:Spot} {R0:Nat→Prop} {W H s:Int} {l:List Int} {fa:Option Addr} {fc:Nat} {ga:Option Addr} {gc:Nat} {f t:aB} {S:Nat→Prop} {A:AS}
set_option maxRecDepth 100000 in
set_option maxHeartbeats 8000000 in
theorem rK (L:HLand w0 lb p R0 W H s l fa fc ga gc f t) (hx0:Ext w0 w) (m:HMem w sb lb h mg mc W l.length S A) (v:Nat) (hv:v<l.length) (a:aB) (x g c:Int) (hg:0≤g∧g≤100000000000) (hc: ∀u:Nat,c=(u:Int)→a=aG W u) (hop: ∀u,A.st u≠0→u<l.length) (h2:A.st v≤2) (hle:A.st v=2→A.g v≤g):
  Calls Tryz.prog 43 #[.pointer (some ⟨sb,0,none⟩),cD a (aG W v) x, .int .u64 g] w fun e w'=>e= .returned (.tuple #[])∧HMem w' sb lb h mg mc W l.length S (if A.takes v g then A.put v g c else A)∧Touch (fun j=>S j∨j=mg∨j=mc) w w':=by
 obtain⟨hin,hiv⟩:=qE L.good hv
 have hn:l.length≤65536:=L.good.len
 have HNB:=aA (fun(w':World) (x:Ext w w')=>pC (L.ext (hx0.trans x)) hin)
 rw[hiv]at HNB
 have HVB:=aA (inB_true.1 hin)
 obtain⟨N1,hN1,hMg⟩:=m.gm
 obtain⟨N2,cf,hN2,hMc,hCO⟩:=m.cm
 obtain⟨ts,hts,hq⟩:=m.heap
 have hfew:=hq.few hop
 have hoc:=aMx A l.length
 have hts1:HeapIs (fun j=>S j∧j≠w.heap.size) w h ts:=hts.mono (fun j hj hS=>⟨hS,by omega⟩)
 have HF:Hid (bN .i64 (v:Int)):=aA (dG (by omega))
 have HKO:=aA (fun(u:Nat) (hu:u≠v)=>aE3 (W:=W) (A:=A) g c hu)
 have HKP:=aJd W A v g c
 have MM:=aA m
 have HMG:=aA hMg
 have HMC:=aA hMc
 have HCO:=aA hCO
 have HQQ:=aA hq
 have HTS:=aA hts1
 have HLE:=aA hle
 have HC:=aA hc
 have SB0:=aA m.sea
 have hb4:=HVB.out
 obtain⟨X,hX⟩: ∃z,vx W v=z:=⟨_,rfl⟩
 obtain⟨Y,hY⟩: ∃z,vy W v=z:=⟨_,rfl⟩
 have hcv:aG W v=(X,Y):=by unfold aG;rw[hX,hY]
 rw[hX,hY]at HKP
 rw[hcv]at HNB hb4⊢
 have HCV:=aA hcv
 obtain⟨n,hnn⟩: ∃z,l.length=z:=⟨_,rfl⟩
 have HNN:=aA hnn
 obtain⟨A',hA'⟩: ∃z,(if A.takes v g then A.put v g c else A)=z:=⟨_,rfl⟩
 rw[hA']
 have HA':=aA hA'
 clear hA'
 rw[hnn]at MM hv hn hfew hoc hN1 hN2⊢
 obtain⟨ax,ay⟩:=a
 simp only at HNB hb4
 unfold cD
 clear L hx0 m hin hiv hMg hMc hCO hts hq hts1 hle hc hop hX hY hcv hnn HVB
 go_enter Tryz.func43,Tryz.ntmps43
 go_upto_region 1 with(fail)
 obtain⟨w1,hw1⟩: ∃z,z=w.alloc (.cells #[.int .i64 ax, .int .i64 ay, .int .i64 X, .int .i64 Y, .int .u64 x] 56):=⟨_,rfl⟩
 have X1:=aA (show Ext w w1 by rw[hw1];exact(Ext.refl _).alloc _)
 have L1:=aA (show Blk w1 w.heap.size 56 #[.int .i64 ax, .int .i64 ay, .int .i64 X, .int .i64 Y, .int .u64 x] by rw[hw1];exact Blk.new_ rfl)
 have S1:=aA (SB0.out.ext X1.out)
 have hz1:w1.heap.size=w.heap.size+1:=by rw[hw1];simp
 have HZ1:=aA hz1
 rw[←hw1]
 clear hw1 hz1 SB0
 have q0:=L1.out.at 0 rfl;have q1:=L1.out.at 1 rfl;have q2:=L1.out.at 2 rfl;have q3:=L1.out.at 3 rfl;have q4:=L1.out.at 4 rfl;have qz:=L1.out.lt
 have s0:=S1.out.at 0 rfl;have s1:=S1.out.at 1 rfl;have s2:=S1.out.at 2 rfl;have s3:=S1.out.at 3 rfl;have sz:=S1.out.lt
 go_cut [6,7] (fun s6 s7 wx=>s6= .int .i64 (v:Int)∧ ∃kb,s7= .pointer (some ⟨kb,0,none⟩)∧Blk wx kb 181 #[.int .u64 g, .int .u64 0, .int .i64 Y, .int .i64 X]∧w1.heap.size≤kb∧Ext w1 wx)
 case first=>
  refine mA (S:=(fun W=>(∀b o,b<w1.heap.size→W.cell? ⟨b,o,none⟩=w1.cell? ⟨b,o,none⟩)∧Ext w1 W)) (.take 0 (.take 1 (.take 2 (.take 3 (.take 4 (.take 5 (.take 7 (.take 8 (.take 9 (.take 10 (.take 11 (.take 12 (.take 13 (.take 14 (.step 6 (.step 15 (.take 16 (.step 17 .done .shut)) .shut) (.step 15 (.step 6 (.take 16 (.step 17 .done .shut)) .shut) .shut)))))))))))))))) (by kernel_rfl) (by kernel_rfl) (by kernel_rfl) (by decide) (fun _ _ d _ _ h=>by cases d<;>exact h) (by first|with_reducible exact bG _|exact aI z_x) (fun hK0=> ?_)
  iterate 14 (refine SeqT.fr1 ?_;try simp only[zz])
  (apply SeqT.step;(·(simp only[z_0,z_1,z_2];rfl)))
  (intro K hK;go_simp;refine(HNB.out _ (X1.out.trans z_x)).mono ?_;rintro e w2 ⟨rfl,hb2⟩;(try replace DT:=aA (DT.out.ext (show Ext _ w2 from z_x)));have zz2:=(show Ext w1 w2 from z_x).size;go_wp2_with fail;refine hK.out _ _ (aI z_x) (fun hK0=> ?_);clear hK K;(try simp only[zz]);(try have t0:=DT.out.at 0 rfl);(try have tf0:=DT.out.frozen 0);(try have t1:=DT.out.at 1 rfl);(try have tf1:=DT.out.frozen 1);(try have t2:=DT.out.at 2 rfl);(try have tf2:=DT.out.frozen 2);(try have t3:=DT.out.at 3 rfl);(try have tf3:=DT.out.frozen 3);(try have tz:=DT.out.lt))
  (apply SeqT.last;(·(simp only[z_0,z_1,z_2];rfl)))
  (intro K hK;go_simp;refine hK.out _ _ (aI z_x) (fun hK0=> ?_);clear hK K;(try simp only[zz]);(first|refine SeqT.named ?_ (by assumption)|refine SeqT.namedD ?_ (by assumption));intro w3 dt hx3 hz3 hS3;(try simp only[World.size_drew,World.size_alloc]at dt hz3);have DT:=aA dt;clear dt hK0;have t0:=DT.out.at 0 rfl;have tf0:=DT.out.frozen 0;have t1:=DT.out.at 1 rfl;have tf1:=DT.out.frozen 1;have t2:=DT.out.at 2 rfl;have tf2:=DT.out.frozen 2;have t3:=DT.out.at 3 rfl;have tf3:=DT.out.frozen 3;have tz:=DT.out.lt)
  iterate 1 (refine SeqT.fr1 ?_;try simp only[zz])
  (apply SeqT.last;(·(simp only[z_0,z_1,z_2];rfl)))
  (intro K hK;go_simp;refine hK.out _ _ (aI z_x) (fun hK0=> ?_);clear hK K;(try simp only[zz]))
  refine SeqT.fin ?_
  rotate_left
  (apply SeqT.last;(·(simp only[z_0,z_1,z_2];rfl)))
  (intro K hK;go_simp;refine hK.out _ _ (aI z_x) (fun hK0=> ?_);clear hK K;(try simp only[zz]);(first|refine SeqT.named ?_ (by assumption)|refine SeqT.namedD ?_ (by assumption));intro w3 dt hx3 hz3 hS3;(try simp only[World.size_drew,World.size_alloc]at dt hz3);have DT:=aA dt;clear dt hK0;have t0:=DT.out.at 0 rfl;have tf0:=DT.out.frozen 0;have t1:=DT.out.at 1 rfl;have tf1:=DT.out.frozen 1;have t2:=DT.out.at 2 rfl;have tf2:=DT.out.frozen 2;have t3:=DT.out.at 3 rfl;have tf3:=DT.out.frozen 3;have tz:=DT.out.lt)
  (apply SeqT.last;(·(simp only[z_0,z_1,z_2];rfl)))
  (intro K hK;go_simp;refine(HNB.out _ (X1.out.trans z_x)).mono ?_;rintro e w2 ⟨rfl,hb2⟩;(try replace DT:=aA (DT.out.ext (show Ext _ w2 from z_x)));have zz2:=(show Ext w1 w2 from z_x).size;go_wp2_with fail;refine hK.out _ _ (aI z_x) (fun hK0=> ?_);clear hK K;(try simp only[zz]);(try have t0:=DT.out.at 0 rfl);(try have tf0:=DT.out.frozen 0);(try have t1:=DT.out.at 1 rfl);(try have tf1:=DT.out.frozen 1);(try have t2:=DT.out.at 2 rfl);(try have tf2:=DT.out.frozen 2);(try have t3:=DT.out.at 3 rfl);(try have tf3:=DT.out.frozen 3);(try have tz:=DT.out.lt))
  iterate 1 (refine SeqT.fr1 ?_;try simp only[zz])
  (apply SeqT.last;(·(simp only[z_0,z_1,z_2];rfl)))
  (intro K hK;go_simp;refine hK.out _ _ (aI z_x) (fun hK0=> ?_);clear hK K;(try simp only[zz]))
  refine SeqT.fin ?_
  all_goals
   go_wp2_with fail
   go_meet
   refine⟨rfl,_,rfl,?_,?_,z_x⟩
   ·have h:=(((DT.out.set_ 0 (.int .u64 g)).set_ 1 (.int .u64 0)).set_ 2 (.int .i64 Y)).set_ 3 (.int .i64 X)
    simpa using h
   first|omega|(simp;omega)|simp
 obtain⟨rfl,kb,rfl,hkb,hkz,hxw⟩:=hcut
 have XC:=aA (X1.out.trans hxw)
 have KB:=aA hkb
 have LC:=aA (L1.out.ext hxw)
 have SC:=aA (MM.out.sea.ext XC.out)
 have zc:=hxw.size
 have zkb:=hkb.lt
 have hz1:=HZ1.out
 have hts2:HeapIs (fun j=>S j∧j≠w.heap.size∧j≠kb) wc h ts:=(HTS.out.mono (S':=fun j=>S j∧j≠w.heap.size∧j≠kb) (fun j hj hS=>⟨hS.1,hS.2,by omega⟩)).ext XC.out
 have HT2:=aA hts2
 have HNW:=aA (fun(w':World) (hx:Ext wc w')=>(fun j hj=>⟨MM.out.nw j (by have:=hx.size;have:=XC.out.size;omega),by have:=hx.size;omega,by have:=hx.size;omega⟩: ∀j,w'.heap.size≤j→S j∧j≠w.heap.size∧j≠kb))
 have HKPH:=aA HKP
 clear hkb hxw L1 S1 q0 q1 q2 q3 q4 qz s0 s1 s2 s3 sz hts2 HTS X1 HKP
 have s0:=SC.out.at 0 rfl;have s1:=SC.out.at 1 rfl;have s2:=SC.out.at 2 rfl;have s3:=SC.out.at 3 rfl;have sz:=SC.out.lt
 have k0:=KB.out.at 0 rfl;have k1:=KB.out.at 1 rfl;have k2:=KB.out.at 2 rfl;have k3:=KB.out.at 3 rfl;have kz:=KB.out.lt
 have q0:=LC.out.at 0 rfl;have q1:=LC.out.at 1 rfl;have q2:=LC.out.at 2 rfl;have q3:=LC.out.at 3 rfl;have q4:=LC.out.at 4 rfl;have qz:=LC.out.lt
 have L2:Hid (CellsAt [(⟨sb,1,none⟩, .pointer (some ⟨h,0,none⟩)),(⟨sb,2,none⟩, .map (some mg)),(⟨sb,3,none⟩, .map (some mc)),(⟨kb,0,none⟩, .int .u64 g),(⟨kb,1,none⟩, .int .u64 0),(⟨kb,2,none⟩, .int .i64 Y),(⟨kb,3,none⟩, .int .i64 X),(⟨w.heap.size,0,none⟩, .int .i64 ax),(⟨w.heap.size,1,none⟩, .int .i64 ay),(⟨w.heap.size,2,none⟩, .int .i64 X),(⟨w.heap.size,3,none⟩, .int .i64 Y),(⟨w.heap.size,4,none⟩, .int .u64 x)] wc):=aA ⟨s1,s2,s3,k0,k1,k2,k3,q0,q1,q2,q3,q4,trivial⟩
 by_cases h0:A.st v=0
 ·have HG:=aA (aCv h0)
  have HCN:=aA (HCO.out.1 v h0)
  have HV0:=aA h0
  have hvq:(v:Int)∉ids ts:=fun hm=>by have:=HQQ.out.ids_st hm;omega
  have HP:=aA (fun(w':World) (hx:Ext wc w')=>pA (S:=fun j=>S j∧j≠w.heap.size∧j≠kb) (HNW.out w' hx) (HT2.out.ext hx) (by omega) ((v:Int),((g,0),(Y,X))) hvq HF.out)
  have HAA:=aA (show A.put v g c=A' by rw[←HA'.out,if_pos (show A.takes v g from .inl h0)])
  clear h0 hvq h2
  go_wp2_with (at_lookup;refine dS _ gB rfl _ _ rfl mg N1 _ rfl (HMG.out.ext XC.out) (v:Int) rfl HF.out ?_;rw[HG.out];intro cc hcc;clear hcc)
  simp only[show KU.qe=IntKind.u64 from rfl]
  go_upto_region 4 with(fail)
  clear s0 s1 s2 s3 sz k0 k1 k2 k3 kz q0 q1 q2 q3 q4 qz
  refine bM (S:=(CellsAt [(⟨sb,1,none⟩, .pointer (some ⟨h,0,none⟩)),(⟨sb,2,none⟩, .map (some mg)),(⟨sb,3,none⟩, .map (some mc)),(⟨kb,0,none⟩, .int .u64 g),(⟨kb,1,none⟩, .int .u64 0),(⟨kb,2,none⟩, .int .i64 Y),(⟨kb,3,none⟩, .int .i64 X),(⟨w.heap.size,0,none⟩, .int .i64 ax),(⟨w.heap.size,1,none⟩, .int .i64 ay),(⟨w.heap.size,2,none⟩, .int .i64 X),(⟨w.heap.size,3,none⟩, .int .i64 Y),(⟨w.heap.size,4,none⟩, .int .u64 x)])) [(0,true),(1,true),(2,true),(3,true),(4,true),(5,true),(6,false)] (by kernel_rfl) (by kernel_rfl) (by kernel_rfl) (by decide) (fun _ _ d _ _ h=>by cases d<;>exact h) (CellsAt.ext ((Ext.refl _).drew) L2.out) (fun hK0=> ?_)
  iterate 6 (refine SeqH.fr2 ?_;try simp only[zz])
  (refine aP ?_;intro K hK;go_simp;refine(HP.out _ z_x).mono ?_;rintro e w3 ⟨rfl,ts3,h3,p3,t3⟩;have H3:=aA h3;have P3:=aA p3;have T3:=aA ((Touch.of_ext (S:=fun j=>S j∧j≠w.heap.size∧j≠kb) (show Ext wc _ from z_x)).trans t3);have hns:=MM.out.ns;have L3b:=aA (L2.out.touch T3.out (by intro p hp;simp only[List.mem_cons,List.not_mem_nil,or_false]at hp;rcases hp with rfl|rfl|rfl|rfl|rfl|rfl|rfl|rfl|rfl|rfl|rfl|rfl;(·exact fun h=>hns.1 h.1);(·exact fun h=>hns.1 h.1);(·exact fun h=>hns.1 h.1);(·exact fun h=>h.2.2 rfl);(·exact fun h=>h.2.2 rfl);(·exact fun h=>h.2.2 rfl);(·exact fun h=>h.2.2 rfl);all_goals (exact fun h=>h.2.1 rfl)));clear h3 p3 t3 hns;go_wp2_with fail;refine hK.out _ _ (L3b.out) (fun hK0=> ?_);clear hK K;try simp only[zz])
  refine SeqH.done ?_
  obtain⟨n1,n2,n3,n4,n5,n6⟩:=MM.out.ns
  have M3g:MapIn Tryz.prog KU w3 mg (gF A) N1:=(HMG.out.ext XC.out).touch T3.out (fun h=>n2 h.1)
  have M3c:MapL w3 mc cf N2:=(HMC.out.ext XC.out).touch T3.out (fun h=>n3 h.1)
  have S3:=aA (SC.out.touch T3.out (fun h=>n1 h.1))
  have hz3:=T3.out.size
  have zmg:=HMG.out.lt
  have zmc:=HMC.out.lt
  have zsb:=MM.out.sea.lt
  have zww:=XC.out.size
  obtain⟨v0,st0,w4,w5,r4,t4,r5,m5,t5⟩:=M3g.drew.entry gB (x:=(v:Int)) (c:=g) HF.out (oX hg.1 (by omega)) (by omega)
  have m5c:MapL w5 mc cf N2:=M3c.drew.touch t5 (fun h=>n6 h.symm)
  obtain⟨v1,st1,w6,w7,r6,t6,r7,m7,t7⟩:=m5c.entry HF.out (cD (ax,ay) (X,Y) x) (by omega)
  have t37:Touch (fun j=>j=mg∨j=mc) w3 w7:=((Touch.refl _ w3).drew.trans (t5.mono (fun j _ h=> .inl h))).trans (t7.mono (fun j _ h=> .inr h))
  have FIN:Hid (HMem w7 sb lb h mg mc W n S (A.put v g c)∧Touch (fun j=>S j∨j=mg∨j=mc) w w7):=aA ⟨{
    sea:=S3.out.touch t37 (fun h=>h.elim n4 n5)
    gm:=⟨_,by rw[aH6 g c hv HV0.out];split<;>omega,(m5.congr (tJ A v g c)).touch t7 (fun h=>n6 h)⟩
    cm:=⟨_,_,by rw[aH6 g c hv HV0.out,HCN.out];simp;omega,m7,by rw[←HCV.out];exact HCO.out.put v (ax,ay) x g c HC.out⟩
    heap:=⟨ts3,(H3.out.mono (fun j _ h=>h.1)).touch t37 (fun j hj h=>h.elim (fun e=>n2 (e▸hj)) (fun e=>n3 (e▸hj))),HQQ.out.push HV0.out HKO.out (by rw[HKPH.out];exact P3.out)⟩
    ns:=MM.out.ns
    nw:=fun j hj=>MM.out.nw j (by have:=t37.size;omega)},((Touch.of_ext XC.out).trans (T3.out.mono (fun j _ h=> .inl h.1))).trans (t37.mono (fun j _ h=> .inr h))⟩
  simp only[KU]at r4 r5
  unfold cD at r7
  simp only at r7
  have L3:Hid (CellsAt [(⟨sb,2,none⟩, .map (some mg)),(⟨sb,3,none⟩, .map (some mc)),(⟨w.heap.size,0,none⟩, .int .i64 ax),(⟨w.heap.size,1,none⟩, .int .i64 ay),(⟨w.heap.size,2,none⟩, .int .i64 X),(⟨w.heap.size,3,none⟩, .int .i64 Y),(⟨w.heap.size,4,none⟩, .int .u64 x)] w3):=aA ⟨S3.out.at 2 rfl,S3.out.at 3 rfl,L3b.out.2.2.2.2.2.2.2⟩
  have L3d:=aA (show CellsAt [(⟨sb,2,none⟩, .map (some mg)),(⟨sb,3,none⟩, .map (some mc)),(⟨w.heap.size,0,none⟩, .int .i64 ax),(⟨w.heap.size,1,none⟩, .int .i64 ay),(⟨w.heap.size,2,none⟩, .int .i64 X),(⟨w.heap.size,3,none⟩, .int .i64 Y),(⟨w.heap.size,4,none⟩, .int .u64 x)] w3.drew from CellsAt.ext ((Ext.refl _).drew) L3.out)
  have L4:=aA (L3d.out.touch t4 (by intro p hp;simp only[List.mem_cons,List.not_mem_nil,or_false]at hp;rcases hp with rfl|rfl|rfl|rfl|rfl|rfl|rfl;(·exact fun h=>n4 h);(·exact fun h=>n4 h);all_goals (exact fun h=>by have e:w.heap.size=mg:=h;omega)))
  have L5:=aA (L3d.out.touch t5 (by intro p hp;simp only[List.mem_cons,List.not_mem_nil,or_false]at hp;rcases hp with rfl|rfl|rfl|rfl|rfl|rfl|rfl;(·exact fun h=>n4 h);(·exact fun h=>n4 h);all_goals (exact fun h=>by have e:w.heap.size=mg:=h;omega)))
  have L6:=aA (L5.out.touch t6 (by intro p hp;simp only[List.mem_cons,List.not_mem_nil,or_false]at hp;rcases hp with rfl|rfl|rfl|rfl|rfl|rfl|rfl;(·exact fun h=>n5 h);(·exact fun h=>n5 h);all_goals (exact fun h=>by have e:w.heap.size=mc:=h;omega)))
  have L7:=aA (L5.out.touch t7 (by intro p hp;simp only[List.mem_cons,List.not_mem_nil,or_false]at hp;rcases hp with rfl|rfl|rfl|rfl|rfl|rfl|rfl;(·exact fun h=>n5 h);(·exact fun h=>n5 h);all_goals (exact fun h=>by have e:w.heap.size=mc:=h;omega)))
  clear M3g M3c m5 m5c m7 t4 t5 t6 t7 t37 hK0
  go_upto_region 6 with(fail)
  refine bM (S:=(CellsAt [(⟨sb,2,none⟩, .map (some mg)),(⟨sb,3,none⟩, .map (some mc)),(⟨w.heap.size,0,none⟩, .int .i64 ax),(⟨w.heap.size,1,none⟩, .int .i64 ay),(⟨w.heap.size,2,none⟩, .int .i64 X),(⟨w.heap.size,3,none⟩, .int .i64 Y),(⟨w.heap.size,4,none⟩, .int .u64 x)])) [(0,true),(1,true),(2,true),(3,true),(4,true),(5,true),(6,true),(7,true),(8,true),(9,true),(10,true),(11,true),(12,false),(13,true),(14,false),(15,false),(16,true),(17,false)] (by kernel_rfl) (by kernel_rfl) (by kernel_rfl) (by decide) (fun _ _ d _ _ h=>by cases d<;>exact h) L3d.out (fun hK0=> ?_)
  iterate 12 (refine SeqH.fr2 ?_;try simp only[zz])
  (refine aP ?_;intro K hK;go_simp;refine hK.out _ _ (L4.out) (fun hK0=> ?_);clear hK K;try simp only[zz])
  iterate 1 (refine SeqH.fr2 ?_;try simp only[zz])
  (refine aP ?_;intro K hK;go_simp;refine hK.out _ _ (L5.out) (fun hK0=> ?_);clear hK K;try simp only[zz])
  (refine aP ?_;intro K hK;go_simp;refine hK.out _ _ (L6.out) (fun hK0=> ?_);clear hK K;try simp only[zz])
  iterate 1 (refine SeqH.fr2 ?_;try simp only[zz])
  (refine aP ?_;intro K hK;go_simp;refine hK.out _ _ (L7.out) (fun hK0=> ?_);clear hK K;try simp only[zz])
  refine SeqH.done ?_
  go_wp2_with fail
  go_end0
  exact⟨rfl,by rw[←HAA.out];exact FIN.out.1,FIN.out.2⟩
 have h1:A.st v=1∨A.st v=2:=by omega
 have HG:=aA (oZ h0)
 by_cases hlt:A.st v=1∧g<A.g v
 ·obtain⟨kk,hkk,hat⟩:=HQQ.out.waits hlt.1
  have HP:=aA (fun(w':World) (hx:Ext wc w')=>qB (S:=fun j=>S j∧j≠w.heap.size∧j≠kb) (HT2.out.ext hx) (by omega) hkk ((v:Int),((g,0),(Y,X))) (by rw[hat]) (by
   rw[hat]
   refine lessB_iff.2 (.inl ?_)
   show g<A.g v+0
   omega))
  have HKK:=aA hkk
  have HAT:=aA hat
  have HV1:=aA hlt.1
  have HV0:=aA h0
  have HAA:=aA (show A.put v g c=A' by rw[←HA'.out,if_pos (show A.takes v g from .inr hlt)])
  have hd2:decide (A.g v≤g)=false:=by simp;omega
  obtain⟨g0,hg0⟩: ∃z,A.g v=z:=⟨_,rfl⟩
  rw[hg0]at HG hd2
  clear h0 h1 h2 hlt hg0 hkk hat
  go_wp2_with (at_lookup;refine dS _ gB rfl _ _ rfl mg N1 _ rfl (HMG.out.ext XC.out) (v:Int) rfl HF.out ?_;rw[HG.out];intro cc hcc;obtain rfl:=hcc _ rfl;clear hcc)
  simp only[show KU.qe=IntKind.u64 from rfl]
  go_upto_region 5 with(fail)
  clear s0 s1 s2 s3 sz k0 k1 k2 k3 kz q0 q1 q2 q3 q4 qz
  refine bM (S:=(CellsAt [(⟨sb,1,none⟩, .pointer (some ⟨h,0,none⟩)),(⟨sb,2,none⟩, .map (some mg)),(⟨sb,3,none⟩, .map (some mc)),(⟨kb,0,none⟩, .int .u64 g),(⟨kb,1,none⟩, .int .u64 0),(⟨kb,2,none⟩, .int .i64 Y),(⟨kb,3,none⟩, .int .i64 X),(⟨w.heap.size,0,none⟩, .int .i64 ax),(⟨w.heap.size,1,none⟩, .int .i64 ay),(⟨w.heap.size,2,none⟩, .int .i64 X),(⟨w.heap.size,3,none⟩, .int .i64 Y),(⟨w.heap.size,4,none⟩, .int .u64 x)])) [(0,true),(1,true),(2,true),(3,true),(4,true),(5,true),(6,true),(7,true),(8,true),(9,true),(10,false),(11,true),(12,true)] (by kernel_rfl) (by kernel_rfl) (by kernel_rfl) (by decide) (fun _ _ d _ _ h=>by cases d<;>exact h) (CellsAt.ext ((Ext.refl _).drew) L2.out) (fun hK0=> ?_)
  iterate 10 (refine SeqH.fr2 ?_;try simp only[zz])
  (refine aP ?_;intro K hK;go_simp;refine(HP.out _ z_x).mono ?_;rintro e w3 ⟨rfl,ts3,h3,p3,t3⟩;have H3:=aA h3;have P3:=aA p3;have T3:=aA ((Touch.of_ext (S:=fun j=>S j∧j≠w.heap.size∧j≠kb) (show Ext wc _ from z_x)).trans t3);have hns:=MM.out.ns;have L3b:=aA (L2.out.touch T3.out (by intro p hp;simp only[List.mem_cons,List.not_mem_nil,or_false]at hp;rcases hp with rfl|rfl|rfl|rfl|rfl|rfl|rfl|rfl|rfl|rfl|rfl|rfl;(·exact fun h=>hns.1 h.1);(·exact fun h=>hns.1 h.1);(·exact fun h=>hns.1 h.1);(·exact fun h=>h.2.2 rfl);(·exact fun h=>h.2.2 rfl);(·exact fun h=>h.2.2 rfl);(·exact fun h=>h.2.2 rfl);all_goals (exact fun h=>h.2.1 rfl)));clear h3 p3 t3 hns;go_wp2_with fail;refine hK.out _ _ (L3b.out) (fun hK0=> ?_);clear hK K;try simp only[zz])
  iterate 2 (refine SeqH.fr2 ?_;try simp only[zz])
  refine SeqH.done ?_
  obtain⟨n1,n2,n3,n4,n5,n6⟩:=MM.out.ns
  have M3g:MapIn Tryz.prog KU w3 mg (gF A) N1:=(HMG.out.ext XC.out).touch T3.out (fun h=>n2 h.1)
  have M3c:MapL w3 mc cf N2:=(HMC.out.ext XC.out).touch T3.out (fun h=>n3 h.1)
  have S3:=aA (SC.out.touch T3.out (fun h=>n1 h.1))
  have hz3:=T3.out.size
  have zmg:=HMG.out.lt
  have zmc:=HMC.out.lt
  have zsb:=MM.out.sea.lt
  have zww:=XC.out.size
  obtain⟨v0,st0,w4,w5,r4,t4,r5,m5,t5⟩:=M3g.drew.entry gB (x:=(v:Int)) (c:=g) HF.out (oX hg.1 (by omega)) (by omega)
  have m5c:MapL w5 mc cf N2:=M3c.drew.touch t5 (fun h=>n6 h.symm)
  obtain⟨v1,st1,w6,w7,r6,t6,r7,m7,t7⟩:=m5c.entry HF.out (cD (ax,ay) (X,Y) x) (by omega)
  have t37:Touch (fun j=>j=mg∨j=mc) w3 w7:=((Touch.refl _ w3).drew.trans (t5.mono (fun j _ h=> .inl h))).trans (t7.mono (fun j _ h=> .inr h))
  have FIN:Hid (HMem w7 sb lb h mg mc W n S (A.put v g c)∧Touch (fun j=>S j∨j=mg∨j=mc) w w7):=aA ⟨{
    sea:=S3.out.touch t37 (fun h=>h.elim n4 n5)
    gm:=⟨_,by rw[aH7 g c HV0.out,oZ HV0.out];simp;omega,(m5.congr (tJ A v g c)).touch t7 (fun h=>n6 h)⟩
    cm:=⟨_,_,by rw[aH7 g c HV0.out];obtain⟨_,_,hs,_⟩:=HCO.out.2 v HV0.out;rw[hs];simp;omega,m7,by rw[←HCV.out];exact HCO.out.put v (ax,ay) x g c HC.out⟩
    heap:=⟨ts3,(H3.out.mono (fun j _ h=>h.1)).touch t37 (fun j hj h=>h.elim (fun e=>n2 (e▸hj)) (fun e=>n3 (e▸hj))),HQQ.out.lower HV1.out HKK.out HAT.out HKO.out (by rw[HKPH.out];exact P3.out)⟩
    ns:=MM.out.ns
    nw:=fun j hj=>MM.out.nw j (by have:=t37.size;omega)},((Touch.of_ext XC.out).trans (T3.out.mono (fun j _ h=> .inl h.1))).trans (t37.mono (fun j _ h=> .inr h))⟩
  simp only[KU]at r4 r5
  unfold cD at r7
  simp only at r7
  have L3:Hid (CellsAt [(⟨sb,2,none⟩, .map (some mg)),(⟨sb,3,none⟩, .map (some mc)),(⟨w.heap.size,0,none⟩, .int .i64 ax),(⟨w.heap.size,1,none⟩, .int .i64 ay),(⟨w.heap.size,2,none⟩, .int .i64 X),(⟨w.heap.size,3,none⟩, .int .i64 Y),(⟨w.heap.size,4,none⟩, .int .u64 x)] w3):=aA ⟨S3.out.at 2 rfl,S3.out.at 3 rfl,L3b.out.2.2.2.2.2.2.2⟩
  have L3d:=aA (show CellsAt [(⟨sb,2,none⟩, .map (some mg)),(⟨sb,3,none⟩, .map (some mc)),(⟨w.heap.size,0,none⟩, .int .i64 ax),(⟨w.heap.size,1,none⟩, .int .i64 ay),(⟨w.heap.size,2,none⟩, .int .i64 X),(⟨w.heap.size,3,none⟩, .int .i64 Y),(⟨w.heap.size,4,none⟩, .int .u64 x)] w3.drew from CellsAt.ext ((Ext.refl _).drew) L3.out)
  have L4:=aA (L3d.out.touch t4 (by intro p hp;simp only[List.mem_cons,List.not_mem_nil,or_false]at hp;rcases hp with rfl|rfl|rfl|rfl|rfl|rfl|rfl;(·exact fun h=>n4 h);(·exact fun h=>n4 h);all_goals (exact fun h=>by have e:w.heap.size=mg:=h;omega)))
  have L5:=aA (L3d.out.touch t5 (by intro p hp;simp only[List.mem_cons,List.not_mem_nil,or_false]at hp;rcases hp with rfl|rfl|rfl|rfl|rfl|rfl|rfl;(·exact fun h=>n4 h);(·exact fun h=>n4 h);all_goals (exact fun h=>by have e:w.heap.size=mg:=h;omega)))
  have L6:=aA (L5.out.touch t6 (by intro p hp;simp only[List.mem_cons,List.not_mem_nil,or_false]at hp;rcases hp with rfl|rfl|rfl|rfl|rfl|rfl|rfl;(·exact fun h=>n5 h);(·exact fun h=>n5 h);all_goals (exact fun h=>by have e:w.heap.size=mc:=h;omega)))
  have L7:=aA (L5.out.touch t7 (by intro p hp;simp only[List.mem_cons,List.not_mem_nil,or_false]at hp;rcases hp with rfl|rfl|rfl|rfl|rfl|rfl|rfl;(·exact fun h=>n5 h);(·exact fun h=>n5 h);all_goals (exact fun h=>by have e:w.heap.size=mc:=h;omega)))
  clear M3g M3c m5 m5c m7 t4 t5 t6 t7 t37 hK0
  go_upto_region 6 with(fail)
  refine bM (S:=(CellsAt [(⟨sb,2,none⟩, .map (some mg)),(⟨sb,3,none⟩, .map (some mc)),(⟨w.heap.size,0,none⟩, .int .i64 ax),(⟨w.heap.size,1,none⟩, .int .i64 ay),(⟨w.heap.size,2,none⟩, .int .i64 X),(⟨w.heap.size,3,none⟩, .int .i64 Y),(⟨w.heap.size,4,none⟩, .int .u64 x)])) [(0,true),(1,true),(2,true),(3,true),(4,true),(5,true),(6,true),(7,true),(8,true),(9,true),(10,true),(11,true),(12,false),(13,true),(14,false),(15,false),(16,true),(17,false)] (by kernel_rfl) (by kernel_rfl) (by kernel_rfl) (by decide) (fun _ _ d _ _ h=>by cases d<;>exact h) L3d.out (fun hK0=> ?_)
  iterate 12 (refine SeqH.fr2 ?_;try simp only[zz])
  (refine aP ?_;intro K hK;go_simp;refine hK.out _ _ (L4.out) (fun hK0=> ?_);clear hK K;try simp only[zz])
  iterate 1 (refine SeqH.fr2 ?_;try simp only[zz])
  (refine aP ?_;intro K hK;go_simp;refine hK.out _ _ (L5.out) (fun hK0=> ?_);clear hK K;try simp only[zz])
  (refine aP ?_;intro K hK;go_simp;refine hK.out _ _ (L6.out) (fun hK0=> ?_);clear hK K;try simp only[zz])
  iterate 1 (refine SeqH.fr2 ?_;try simp only[zz])
  (refine aP ?_;intro K hK;go_simp;refine hK.out _ _ (L7.out) (fun hK0=> ?_);clear hK K;try simp only[zz])
  refine SeqH.done ?_
  go_wp2_with fail
  go_end0
  exact⟨rfl,by rw[←HAA.out];exact FIN.out.1,FIN.out.2⟩
 have hge:A.g v≤g:=by
  rcases h1 with h|h
  ·have: ¬g<A.g v:=fun k=>hlt ⟨h,k⟩
   omega
  exact HLE.out h
 have HAA:=aA (show A=A' by
  rw[←HA'.out,if_neg]
  intro k
  rcases k with k|k
  ·exact h0 k
  exact hlt k)
 have hd2:decide (A.g v≤g)=true:=by simp;omega
 obtain⟨g0,hg0⟩: ∃z,A.g v=z:=⟨_,rfl⟩
 rw[hg0]at HG hd2 hge
 clear h0 h1 h2 hlt hg0
 go_wp2_with (at_lookup;refine dS _ gB rfl _ _ rfl mg N1 _ rfl (HMG.out.ext XC.out) (v:Int) rfl HF.out ?_;rw[HG.out];intro cc hcc;obtain rfl:=hcc _ rfl;clear hcc)
 simp only[show KU.qe=IntKind.u64 from rfl]
 go_upto_region 5 with(fail)
 refine aS wc [(0,true),(1,true),(2,true),(3,true),(4,true),(5,true),(6,true),(7,true),(8,true),(9,true),(10,true),(11,true),(12,true)] (fun hK0=> ?_)
 iterate 13 (refine SeqH.fr1 ?_;try simp only[zz])
 refine SeqH.done ?_
 have XE:=aA (XC.out.trans hK0.2)
 clear hK0
 go_wp2_with fail
 exact bodyPost_ret (v:= .tuple #[]) (by simp[results,Tryz.results43,go_sem, *]) rfl ⟨rfl,by rw[←HAA.out];exact MM.out.ext XE.out,Touch.of_ext XE.out⟩
end
end Go.Proofs.YtaellcgglldjaaaGreat

