/- Part of a proof: HierW StarJ. -/
import Derived.Test.YtaellcgglldjaaaGreatHierNodesQ25
import Derived.Test.YtaellcgglldjaaaGreatHierNodesQ07
import Derived.Test.YtaellcgglldjaaaGreatHierNodesQ14
import Derived.Test.YtaellcgglldjaaaGreatHierNodesQ38
import Derived.Deep.Cut
set_option linter.all false
set_option linter.unusedVariables false
set_option linter.unusedSimpArgs false
namespace Go.Proofs.YtaellcgglldjaaaGreat
open Go.RowKit
def wZ (legs:Nat→List (Nat×Int)) (W:Int) (n t:Nat) (b:Int):Nat→AS→Option (List Nat×Int×Int×Int)
 |0,_=>none
 |k+1,A=>match gK W (fun _=>0) A n with
  |none=>some ([],0,A.cnt,22)
  |some v=>if A.cnt=b then some ([],0,A.cnt,23) else if v=t then(kN A.came (n+1) t).map (fun l=>(l,A.g t,A.cnt+1,0)) else wZ legs W n t b k (rls v (A.settle v) (legs v))
theorem aE0 {W:Int} {A:AS} {n v:Nat} (hb:gK W (fun _=>0) A n=some v) (hlt: ∀u,A.st u=1→u<n):eP W (fun _=>0) A v:=
 ⟨(iS hb).2.1,fun u hu=>(iS hb).2.2 u (hlt u hu) hu⟩
theorem zV {G:LGr} {legs:Nat→List (Nat×Int)} {W:Int} {t:Nat} {b:Int} {P:List Nat→List aB} (hlegs: ∀v,G.op v=true→G.legs v=legs v): ∀{k:Nat} {A:AS} {p:List Nat} {c n e:Int},(∀u,A.st u=1→G.op u=true)→wZ legs W G.n t b k A=some (p,c,n,e)→e=0→LRun G W t b P A (P p) c n e
 |0,_,_,_,_,_,_,hr,_=>by cases hr
 |k+1,A,p,c,n,e,hlt,hr,he=>by
  unfold wZ at hr
  have hlt2: ∀u,A.st u=1→u<G.n:=fun u hu=>G.lt u (hlt u hu)
  cases hb:gK W (fun _=>0) A G.n
  ·rw[hb]at hr
   cases hr
   cases he
  ·rename_i v
   rw[hb]at hr
   simp only at hr
   have hB:=aE0 hb hlt2
   split at hr
   ·next h1=>cases hr;cases he
   ·next h1=>
    split at hr
    ·next h2=>
     subst h2
     cases hc:kN A.came (G.n+1) v
     ·rw[hc]at hr;cases hr
     ·rw[hc]at hr
      cases hr
      exact .found hB h1 (pA hc)
    ·next h2=>
     have hov:=hlt v hB.1
     rw[←hlegs v hov]at hr
     refine .next hB h1 h2 (zV hlegs (fun u hu=> ?_) hr he)
     rcases (aJl G A v u).2.2 hu with k|⟨x,k⟩
     ·exact hlt u k
     ·exact(G.leg v hov _ k).1
def gL (t:List Int) (v:Nat):Int:=t.getD v aL
def kH (G:Net) (s:Nat) (t:List Int):Bool:=
 decide (t.length=G.n)&&decide (gL t s=0)&&(List.range G.n).all (fun v=>(G.op v||decide (gL t v=aL))&&decide (0≤gL t v)&&decide (gL t v≤aL)&&
  (!G.op v||decide (v=s)||((G.adj v).all (fun u=> !G.op u||decide (aL≤gL t u+G.cost v)||decide (gL t v≤gL t u+G.cost v))&&(decide (aL≤gL t v)||(G.adj v).any (fun u=>G.op u&&decide (gL t u+G.cost v=gL t v))))))
theorem zM {G:Net} {s:Nat} {t:List Int} (h:kH G s t=true):IsFar G s (gL t):=by
 unfold kH at h
 simp only[Bool.and_eq_true,decide_eq_true_eq,List.all_eq_true,List.mem_range]at h
 obtain⟨⟨h8,h0⟩,ha⟩:=h
 have hbig: ∀v,G.n≤v→gL t v=aL:=fun v hv=>by
  unfold gL
  rw[List.getD_eq_getElem?_getD,List.getElem?_eq_none (by omega)]
  rfl
 have hlt: ∀v,G.op v=true→v<G.n:=fun v hv=>G.lt v hv
 refine⟨fun _=>h0,?_,?_,?_,?_,?_⟩
 ·intro v hv
  by_cases h:v<G.n
  ·have:=(ha v h).1.1.1
   rw[hv]at this
   simpa using this
  ·exact hbig v (by omega)
 ·intro v
  by_cases h:v<G.n
  ·exact(ha v h).1.1.2
  ·rw[hbig v (by omega)];decide
 ·intro v
  by_cases h:v<G.n
  ·exact(ha v h).1.2
  ·rw[hbig v (by omega)];exact Int.le_refl _
 ·intro v hv hs u hu huo hl
  have h1:=(ha v (hlt v hv)).2
  rw[hv]at h1
  simp only[Bool.not_true,Bool.false_or,Bool.or_eq_true,decide_eq_true_eq,Bool.and_eq_true,List.all_eq_true]at h1
  rcases h1 with h1|h1
  ·exact absurd h1 hs
  ·rcases h1.1 u hu with(h2|h2)|h2
   ·rw[huo]at h2;cases h2
   ·omega
   ·exact h2
 ·intro v hv hs hl
  have h1:=(ha v (hlt v hv)).2
  rw[hv]at h1
  simp only[Bool.not_true,Bool.false_or,Bool.or_eq_true,decide_eq_true_eq,Bool.and_eq_true,List.any_eq_true]at h1
  rcases h1 with h1|h1
  ·exact absurd h1 hs
  ·rcases h1.2 with h2|⟨u,u1,u2,u3⟩
   ·omega
   ·exact⟨u,u1,u2,u3⟩
def aw15:List Int:=[1,1,1,1,1,1,1,1]
theorem aw15_good:Good 4 2 2 aw15:=⟨by decide,by decide,by intro x hx;simp[aw15]at hx;omega⟩
theorem sW:aD 4 2 2 aw15=[((1,0),(2,0))]:=(vC (N:=2) (by decide) (by decide)).symm.trans (by decide+kernel)
theorem nE:aX 4 2 [((1,0),(2,0))] (0,1) (3,1)=[(1,0),(2,0),(0,1),(3,1)]:=by decide+kernel
def eT:Int:=18446744073709551615
theorem zZ (id:Int) (h:0≤id∧id<cnt 4 2 2):eZ 4 2 2 id aw15:=aw15_good.box h
theorem o10:ofN 4 2 (1,0).1 (1,0).2=0:=by decide
theorem o20:ofN 4 2 (2,0).1 (2,0).2=1:=by decide
theorem o01:ofN 4 2 (0,1).1 (0,1).2=0:=by decide
theorem o31:ofN 4 2 (3,1).1 (3,1).2=1:=by decide
theorem nM:eZ 4 2 2 0 aw15:=zZ 0 (by decide)
theorem nI:eZ 4 2 2 1 aw15:=zZ 1 (by decide)
theorem oG {a:aB} {id:Int} (h:ofN 4 2 a.1 a.2=id) (L:eZ 4 2 2 id aw15) {t:List Int} (ht:kH (aK (W:=4) (H:=2) (l:=aw15) L) (aC 4 a) t=true) (c:aB):cA 4 2 2 aw15 a c=gL t (aC 4 c):=by
 subst h
 unfold cA
 rw[dif_pos L]
 exact(oT L (zM ht) _).symm
theorem tb4:kH (aK (W:=4) (H:=2) (l:=aw15) nM) 4 [1,2,eT,eT,0,1,eT,eT]=true:=by decide+kernel
theorem tb1:kH (aK (W:=4) (H:=2) (l:=aw15) nM) 1 [1,0,eT,eT,2,1,eT,eT]=true:=by decide+kernel
theorem tb2:kH (aK (W:=4) (H:=2) (l:=aw15) nI) 2 [eT,eT,0,1,eT,eT,1,2]=true:=by decide+kernel
theorem tb7:kH (aK (W:=4) (H:=2) (l:=aw15) nI) 7 [eT,eT,2,1,eT,eT,1,0]=true:=by decide+kernel
theorem aK2:bR 4 2 2 aw15 [((1,0),(2,0))] (0,1) (3,1) (0,1)=[((1,0),2)]:=by
 have hd:=oG (a:=(0,1)) o01 nM tb4
 unfold bR bG
 rw[nE]
 simp only[hd]
 decide+kernel
theorem aKu:bR 4 2 2 aw15 [((1,0),(2,0))] (0,1) (3,1) (1,0)=[((0,1),2),((2,0),1)]:=by
 have hd:=oG (a:=(1,0)) o10 nM tb1
 unfold bR bG
 rw[nE]
 simp only[hd]
 decide+kernel
theorem aKi:bR 4 2 2 aw15 [((1,0),(2,0))] (0,1) (3,1) (2,0)=[((3,1),2),((1,0),1)]:=by
 have hd:=oG (a:=(2,0)) o20 nI tb2
 unfold bR bG
 rw[nE]
 simp only[hd]
 decide+kernel
theorem aKw:bR 4 2 2 aw15 [((1,0),(2,0))] (0,1) (3,1) (3,1)=[((2,0),2)]:=by
 have hd:=oG (a:=(3,1)) o31 nI tb7
 unfold bR bG
 rw[nE]
 simp only[hd]
 decide+kernel
def oY (v:Nat):List (Nat×Int):=if v=4 then[(1,2)] else if v=1 then[(4,2),(2,1)] else if v=2 then[(7,2),(1,1)] else[(2,2)]
theorem nC:aw15.length≤150:=by decide
theorem aAm (v:Nat) (hv:(hGr aw15_good nC (0,1) (3,1)).op v=true):(hGr aw15_good nC (0,1) (3,1)).legs v=oY v:=by
 obtain⟨c,hc,rfl⟩:=(nB aw15_good).1 hv
 have hin:=eL aw15_good hc
 show kC 4 2 2 aw15 (aD 4 2 2 aw15) (0,1) (3,1) (aC 4 c)=_
 unfold kC
 rw[cS hin]
 rw[sW]at hc⊢
 rw[nE]at hc
 simp only[List.mem_cons,List.not_mem_nil,or_false]at hc
 rcases hc with rfl|rfl|rfl|rfl
 ·rw[aKu];decide
 ·rw[aKi];decide
 ·rw[aK2];decide
 ·rw[aKw];decide
theorem aBr {u v:aB} {id:Int} (h:ofN 4 2 u.1 u.2=id) (h2:ofN 4 2 v.1 v.2=id) (L:eZ 4 2 2 id aw15) {t:List Int} (ht:kH (aK (W:=4) (H:=2) (l:=aw15) L) (aC 4 u) t=true) {p:List Nat} (hp:BackP (aK (W:=4) (H:=2) (l:=aw15) L) (gL t) (aC 4 v) p):eJ 4 2 2 aw15 u v=(p.reverse.map (aN 4)).drop 1:=by
 subst h
 have e:dF (W:=4) (H:=2) (l:=aw15) L u=gL t:=funext fun x=>(oT (W:=4) (H:=2) (l:=aw15) L (zM ht) x).symm
 exact aBz h2 L (by rw[e];exact hp)
theorem aJz:eJ 4 2 2 aw15 (2,0) (3,1)=[(3,0),(3,1)]:=by
 rw[aBr (u:=(2,0)) (v:=(3,1)) o20 o31 nI tb2 (p:=[7,3,2]) (.step (by decide+kernel) (u:=3) (by decide+kernel) (.step (by decide+kernel) (u:=2) (by decide+kernel) (.done (by decide+kernel))))]
 decide+kernel
theorem aL9:eJ 4 2 2 aw15 (1,0) (2,0)=[(2,0)]:=vA (by decide)
theorem aKj:eJ 4 2 2 aw15 (0,1) (1,0)=[(1,1),(1,0)]:=by
 rw[aBr (u:=(0,1)) (v:=(1,0)) o01 o10 nM tb4 (p:=[1,5,4]) (.step (by decide+kernel) (u:=5) (by decide+kernel) (.step (by decide+kernel) (u:=4) (by decide+kernel) (.done (by decide+kernel))))]
 decide+kernel
theorem aFz:lI 4 2 2 aw15 (0,1) [7,2,1,4]=[(0,1),(1,1),(1,0),(2,0),(3,0),(3,1)]:=by
 unfold lI
 show(0,1)::mF (fun u v=>eJ 4 2 2 aw15 (aN 4 u) (aN 4 v)) (eJ 4 2 2 aw15 (aN 4 4) (aN 4 1)++(eJ 4 2 2 aw15 (aN 4 1) (aN 4 2)++(eJ 4 2 2 aw15 (aN 4 2) (aN 4 7)++[]))) [4]=_
 rw[show aN 4 4=(0,1) by decide,show aN 4 1=(1,0) by decide,show aN 4 2=(2,0) by decide,show aN 4 7=(3,1) by decide,aJz,aL9,aKj]
 rfl
theorem aGr:HSrch 4 2 2 aw15 (0,1) (3,1) 9 [(0,1),(1,1),(1,0),(2,0),(3,0),(3,1)] 5 4 0:=by
 refine .inr (.inr (.inr ⟨⟨by decide,by decide⟩,by decide,by decide,aw15_good,nC,?_⟩))
 have h:=zV (G:=hGr aw15_good nC (0,1) (3,1)) (legs:=oY) (W:=4) (t:=7) (b:=9) (P:=lI 4 2 2 aw15 (0,1)) aAm (k:=9) (A:=bA 4) (p:=[7,2,1,4]) (c:=5) (n:=4) (e:=0) (fun u hu=>by
  have hu4:u=4:=by
   unfold bA bX at hu
   simp only at hu
   split at hu
   ·assumption
   ·cases hu
  subst hu4
  show opH 4 2 (aD 4 2 2 aw15) (0,1) (3,1) aw15.length 4=true
  refine(nB aw15_good).2 ⟨(0,1),?_,(show aC 4 (0,1)=4 by decide)⟩
  rw[sW,nE]
  decide) (by show wZ oY 4 8 7 9 9 (bA 4)=_;decide+kernel) rfl
 rw[aFz]at h
 exact h
end Go.Proofs.YtaellcgglldjaaaGreat

namespace Go.Proofs.YtaellcgglldjaaaGreat
open Go.RowKit
def eF (W H:Int) (n:Nat) (x y tx ty b:Int):Int:=
 if aT W H n=0 then(if inB W H x y=true∧inB W H tx ty=true then(if b<0 then 1 else 0) else 10) else aT W H n
theorem findE_ok {W H:Int} {n:Nat} {x y tx ty b:Int}:eF W H n x y tx ty b=0↔aT W H n=0∧inB W H x y=true∧inB W H tx ty=true∧0≤b:=by
 unfold eF
 split
 ·next h=>
  split
  ·next h2=>
   split
   ·next h3=>exact⟨(fun e=>absurd e (by decide)),(fun e=>by omega)⟩
   ·next h3=>exact⟨fun _=>⟨h,h2.1,h2.2,by omega⟩,fun _=>rfl⟩
  ·next h2=>exact⟨(fun e=>absurd e (by decide)),fun e=>absurd ⟨e.2.1,e.2.2.1⟩ h2⟩
 ·next h=>exact⟨fun e=>absurd e h,fun e=>absurd e.1 h⟩
set_option maxRecDepth 100000 in
theorem aFi {w:World} (W H:Int) (a:Option Addr) (n c:Nat) (x y tx ty b:Int) (he:eF W H n x y tx ty b≠0):
  Calls Tryz.prog 25 #[.agg #[.int .i64 W, .int .i64 H, .slice a n c], .agg #[.int .i64 x, .int .i64 y], .agg #[.int .i64 tx, .int .i64 ty], .int .i64 b] w fun e w'=>e= .returned (.tuple #[.agg #[.slice none 0 0, .int .u64 0, .int .i64 0], .int .i64 (eF W H n x y tx ty b)])∧Ext w w':=by
 have HC:=aA (fun w'=>cQ W H a n c w')
 have H1:=aA (fun w'=>fT W H x y w')
 have H2:=aA (fun w'=>fT W H tx ty w')
 by_cases hc:aT W H n=0
 ·rw[hc]at HC
  by_cases hi:inB W H x y=true
  ·rw[hi]at H1
   by_cases ht:inB W H tx ty=true
   ·rw[ht]at H2
    have hb:b<0:=by
     rcases Int.lt_or_le b 0 with h|h
     ·exact h
     ·exact absurd (findE_ok.2 ⟨hc,hi,ht,h⟩) he
    have e0:eF W H n x y tx ty b=1:=by unfold eF;rw[if_pos hc,if_pos ⟨hi,ht⟩,if_pos hb]
    have hb':decide (b<0)=true:=by simpa using hb
    rw[e0]
    clear e0 he hc hi ht hb
    go_enter Tryz.func25,Tryz.ntmps25
    go_wp2_with fail
    refine(HC.out _).mono ?_
    rintro e w1 ⟨rfl,hb1⟩
    obtain⟨hc1,hf1⟩:=hb1.cells;have hz1:=hb1.size;(repeat(first|rw[World.size_alloc]at hz1|rw[World.size_drew]at hz1));have z1_0:w.heap.size<w1.heap.size:=(by omega);have z1_1:w.heap.size+1<w1.heap.size:=(by omega);have z1_2:w.heap.size+2<w1.heap.size:=(by omega);have z1_3:w.heap.size+3<w1.heap.size:=(by omega)
    go_wp2_with fail
    refine(H1.out _).mono ?_
    rintro e w2 ⟨rfl,hb2⟩
    obtain⟨hc2,hf2⟩:=hb2.cells;have hz2:=hb2.size;(repeat(first|rw[World.size_alloc]at hz2|rw[World.size_drew]at hz2));have z2_0:w.heap.size<w2.heap.size:=(by omega);have z2_1:w.heap.size+1<w2.heap.size:=(by omega);have z2_2:w.heap.size+2<w2.heap.size:=(by omega);have z2_3:w.heap.size+3<w2.heap.size:=(by omega)
    go_wp2_with fail
    refine(H2.out _).mono ?_
    rintro e w3 ⟨rfl,hb3⟩
    obtain⟨hc3,hf3⟩:=hb3.cells;have hz3:=hb3.size;(repeat(first|rw[World.size_alloc]at hz3|rw[World.size_drew]at hz3));have z3_0:w.heap.size<w3.heap.size:=(by omega);have z3_1:w.heap.size+1<w3.heap.size:=(by omega);have z3_2:w.heap.size+2<w3.heap.size:=(by omega);have z3_3:w.heap.size+3<w3.heap.size:=(by omega)
    go_wp2_with fail
    exact bodyPost_ret (v:= .tuple #[.agg #[.slice none 0 0, .int .u64 0, .int .i64 0], .int .i64 1]) (by simp[results,Tryz.results25,go_sem, *]) rfl ⟨rfl,z_x⟩
   ·have ht':inB W H tx ty=false:=by simpa using ht
    rw[ht']at H2
    have e0:eF W H n x y tx ty b=10:=by unfold eF;rw[if_pos hc,if_neg (fun e=>ht e.2)]
    rw[e0]
    clear e0 he hc hi ht ht'
    go_enter Tryz.func25,Tryz.ntmps25
    go_wp2_with fail
    refine(HC.out _).mono ?_
    rintro e w1 ⟨rfl,hb1⟩
    obtain⟨hc1,hf1⟩:=hb1.cells;have hz1:=hb1.size;(repeat(first|rw[World.size_alloc]at hz1|rw[World.size_drew]at hz1));have z1_0:w.heap.size<w1.heap.size:=(by omega);have z1_1:w.heap.size+1<w1.heap.size:=(by omega);have z1_2:w.heap.size+2<w1.heap.size:=(by omega);have z1_3:w.heap.size+3<w1.heap.size:=(by omega)
    go_wp2_with fail
    refine(H1.out _).mono ?_
    rintro e w2 ⟨rfl,hb2⟩
    obtain⟨hc2,hf2⟩:=hb2.cells;have hz2:=hb2.size;(repeat(first|rw[World.size_alloc]at hz2|rw[World.size_drew]at hz2));have z2_0:w.heap.size<w2.heap.size:=(by omega);have z2_1:w.heap.size+1<w2.heap.size:=(by omega);have z2_2:w.heap.size+2<w2.heap.size:=(by omega);have z2_3:w.heap.size+3<w2.heap.size:=(by omega)
    go_wp2_with fail
    refine(H2.out _).mono ?_
    rintro e w3 ⟨rfl,hb3⟩
    obtain⟨hc3,hf3⟩:=hb3.cells;have hz3:=hb3.size;(repeat(first|rw[World.size_alloc]at hz3|rw[World.size_drew]at hz3));have z3_0:w.heap.size<w3.heap.size:=(by omega);have z3_1:w.heap.size+1<w3.heap.size:=(by omega);have z3_2:w.heap.size+2<w3.heap.size:=(by omega);have z3_3:w.heap.size+3<w3.heap.size:=(by omega)
    go_wp2_with fail
    exact bodyPost_ret (v:= .tuple #[.agg #[.slice none 0 0, .int .u64 0, .int .i64 0], .int .i64 10]) (by simp[results,Tryz.results25,go_sem, *]) rfl ⟨rfl,z_x⟩
  ·have hi':inB W H x y=false:=by simpa using hi
   rw[hi']at H1
   have e0:eF W H n x y tx ty b=10:=by unfold eF;rw[if_pos hc,if_neg (fun e=>hi e.1)]
   rw[e0]
   clear e0 he hc hi hi'
   go_enter Tryz.func25,Tryz.ntmps25
   go_wp2_with fail
   refine(HC.out _).mono ?_
   rintro e w1 ⟨rfl,hb1⟩
   obtain⟨hc1,hf1⟩:=hb1.cells;have hz1:=hb1.size;(repeat(first|rw[World.size_alloc]at hz1|rw[World.size_drew]at hz1));have z1_0:w.heap.size<w1.heap.size:=(by omega);have z1_1:w.heap.size+1<w1.heap.size:=(by omega);have z1_2:w.heap.size+2<w1.heap.size:=(by omega);have z1_3:w.heap.size+3<w1.heap.size:=(by omega)
   go_wp2_with fail
   refine(H1.out _).mono ?_
   rintro e w2 ⟨rfl,hb2⟩
   obtain⟨hc2,hf2⟩:=hb2.cells;have hz2:=hb2.size;(repeat(first|rw[World.size_alloc]at hz2|rw[World.size_drew]at hz2));have z2_0:w.heap.size<w2.heap.size:=(by omega);have z2_1:w.heap.size+1<w2.heap.size:=(by omega);have z2_2:w.heap.size+2<w2.heap.size:=(by omega);have z2_3:w.heap.size+3<w2.heap.size:=(by omega)
   go_wp2_with fail
   exact bodyPost_ret (v:= .tuple #[.agg #[.slice none 0 0, .int .u64 0, .int .i64 0], .int .i64 10]) (by simp[results,Tryz.results25,go_sem, *]) rfl ⟨rfl,z_x⟩
 ·have e0:eF W H n x y tx ty b=aT W H n:=by unfold eF;rw[if_neg hc]
  rw[e0]
  clear e0 he
  generalize aT W H n=q at *
  have hq:(q !=0)=true:=by simpa using hc
  clear hc
  go_enter Tryz.func25,Tryz.ntmps25
  go_wp2_with fail
  refine(HC.out _).mono ?_
  rintro e w1 ⟨rfl,hb1⟩
  obtain⟨hc1,hf1⟩:=hb1.cells;have hz1:=hb1.size;(repeat(first|rw[World.size_alloc]at hz1|rw[World.size_drew]at hz1));have z1_0:w.heap.size<w1.heap.size:=(by omega);have z1_1:w.heap.size+1<w1.heap.size:=(by omega);have z1_2:w.heap.size+2<w1.heap.size:=(by omega);have z1_3:w.heap.size+3<w1.heap.size:=(by omega)
  go_wp2_with fail
  exact bodyPost_ret (v:= .tuple #[.agg #[.slice none 0 0, .int .u64 0, .int .i64 0], .int .i64 q]) (by simp[results,Tryz.results25,go_sem, *]) rfl ⟨rfl,z_x⟩
end Go.Proofs.YtaellcgglldjaaaGreat

