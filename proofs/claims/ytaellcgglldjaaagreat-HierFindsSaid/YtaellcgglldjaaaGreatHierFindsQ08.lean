/- Part of a proof: FarP. -/
set_option linter.all false
set_option linter.unusedVariables false
set_option linter.unusedSimpArgs false
namespace Go.Proofs.YtaellcgglldjaaaGreat

abbrev fN:=(Int×Int)×(Int×Int)
abbrev aM:=Int×fN
def bP (a b:fN):Bool:=if a.1.1=b.1.1 then(if a.1.2=b.1.2 then(if a.2.1=b.2.1 then decide (a.2.2<b.2.2) else decide (a.2.1<b.2.1)) else decide (a.1.2<b.1.2)) else decide (a.1.1<b.1.1)
def dX (a b:aM):Bool:=if a.2=b.2 then decide (a.1<b.1) else bP a.2 b.2
theorem lessB_iff {a b:fN}:bP a b=true↔a.1.1<b.1.1∨a.1.1=b.1.1∧(a.1.2<b.1.2∨a.1.2=b.1.2∧(a.2.1<b.2.1∨a.2.1=b.2.1∧a.2.2<b.2.2)):=by
 unfold bP
 repeat' split
 all_goals simp only[decide_eq_true_eq]
 all_goals omega
theorem aGr {a b:fN}:a=b↔a.1.1=b.1.1∧a.1.2=b.1.2∧a.2.1=b.2.1∧a.2.2=b.2.2:=by
 obtain⟨⟨a1,a2⟩,a3,a4⟩:=a
 obtain⟨⟨b1,b2⟩,b3,b4⟩:=b
 simp[and_assoc]
theorem pR {a b:aM}:dX a b=true↔a.2.1.1<b.2.1.1∨a.2.1.1=b.2.1.1∧(a.2.1.2<b.2.1.2∨a.2.1.2=b.2.1.2∧(a.2.2.1<b.2.2.1∨a.2.2.1=b.2.2.1∧(a.2.2.2<b.2.2.2∨a.2.2.2=b.2.2.2∧a.1<b.1))):=by
 unfold dX
 split
 ·rename_i h
  rw[aGr]at h
  rw[decide_eq_true_eq]
  omega
 rename_i h
 rw[aGr]at h
 rw[lessB_iff]
 omega
def Le (a b:aM):Prop:=dX b a=false
theorem Le.refl (a:aM):Le a a:=by
 unfold Le
 cases h:dX a a
 ·rfl
 rw[pR]at h;omega
theorem le_iff {a b:aM}:Le a b↔ ¬(b.2.1.1<a.2.1.1∨b.2.1.1=a.2.1.1∧(b.2.1.2<a.2.1.2∨b.2.1.2=a.2.1.2∧(b.2.2.1<a.2.2.1∨b.2.2.1=a.2.2.1∧(b.2.2.2<a.2.2.2∨b.2.2.2=a.2.2.2∧b.1<a.1)))):=by
 rw[←pR];unfold Le;simp
theorem Le.trans {a b c:aM} (h:Le a b) (k:Le b c):Le a c:=by
 rw[le_iff]at *
 omega
theorem rO {a b:aM} (h:dX a b=true):Le a b:=by
 rw[pR]at h
 rw[le_iff]
 omega
theorem aE6 {a b:aM} (h:bP a.2 b.2=true):Le a b:=by
 rw[lessB_iff]at h
 rw[le_iff]
 omega
def T0:aM:=(0,((0,0),(0,0)))
def tat (l:List aM) (i:Nat):aM:=l.getD i T0
theorem dP {l:List aM} {i:Nat} (h:i<l.length):tat l i=l[i]:=by simp[tat,h]
def swp (l:List aM) (i j:Nat):List aM:=(l.set i (tat l j)).set j (tat l i)
theorem gX (l:List aM) (i j:Nat):(swp l i j).length=l.length:=by simp[swp]
theorem jD {l:List aM} {i j:Nat} (hi:i<l.length) (hj:j<l.length) (k:Nat):tat (swp l i j) k=if k=j then tat l i else if k=i then tat l j else tat l k:=by
 unfold swp tat
 simp only[List.getD_eq_getElem?_getD,List.getElem?_set,List.length_set]
 by_cases h1:j=k
 ·subst h1;simp[hj]
 have h1': ¬k=j:=fun e=>h1 e.symm
 by_cases h2:i=k
 ·subst h2;simp[h1,h1',hi]
 have h2': ¬k=i:=fun e=>h2 e.symm
 simp[h1,h2,h1',h2']
theorem iS {l:List aM} {i j:Nat} (hi:i<l.length) (hj:j<l.length):(swp l i j).Perm l:=by
 have h:=Array.swap_perm (xs:=l.toArray) (i:=i) (j:=j) (by simpa using hi) (by simpa using hj)
 have e:(l.toArray.swap i j (by simpa using hi) (by simpa using hj)).toList=swp l i j:=by
  rw[Array.toList_swap]
  simp[swp,dP hi,dP hj]
 rw[←e]
 simpa using h.toList
def par (j:Nat):Nat:=(j-1)/2
theorem eR {j:Nat} (h:0<j):par j<j:=by unfold par;omega
def dL (l:List aM):Prop:= ∀j,0<j→j<l.length→Le (tat l (par j)) (tat l j)
def kR (l:List aM) (i:Nat):Prop:=(∀j,0<j→j<l.length→j≠i→Le (tat l (par j)) (tat l j))∧ ∀j,0<j→j<l.length→par j=i→0<i→Le (tat l (par i)) (tat l j)
def jF (l:List aM) (i:Nat):Prop:=(∀j,0<j→j<l.length→par j≠i→Le (tat l (par j)) (tat l j))∧ ∀j,0<j→j<l.length→par j=i→0<i→Le (tat l (par i)) (tat l j)
theorem aA8 {l:List aM} {i:Nat} (h:kR l i) (he:i=0∨dX (tat l i) (tat l (par i))=false):dL l:=by
 intro j h0 hj
 by_cases e:j=i
 ·subst e
  rcases he with he|he
  ·omega
  exact he
 exact h.1 j h0 hj e
theorem aHm {l:List aM} {i:Nat} (h:kR l i) (h0:0<i) (hi:i<l.length) (ha:dX (tat l i) (tat l (par i))=true):kR (swp l i (par i)) (par i):=by
 have hp:=eR h0
 have A:=jD (l:=l) hi (j:=par i) (by omega)
 have hle:=rO ha
 refine⟨fun j j0 hj hne=> ?_,fun j j0 hj hpj hpp=> ?_⟩
 ·rw[gX]at hj
  rw[A,A,if_neg hne]
  by_cases e:j=i
  ·subst e
   rw[if_pos rfl,if_pos rfl];exact hle
  rw[if_neg e]
  by_cases e2:par j=par i
  ·rw[if_pos e2]
   have:=h.1 j j0 hj e
   rw[e2]at this
   exact hle.trans this
  rw[if_neg e2]
  by_cases e3:par j=i
  ·rw[if_pos e3];exact h.2 j j0 hj e3 h0
  rw[if_neg e3];exact h.1 j j0 hj e
 rw[gX]at hj
 have hq:=eR hpp
 rw[A,A,if_neg (by omega),if_neg (by omega)]
 have up:=h.1 (par i) hpp (by omega) (by omega)
 by_cases e:j=i
 ·subst e
  rw[if_neg (by omega),if_pos rfl];exact up
 have:j≠par i:=by have:=eR j0;omega
 rw[if_neg this,if_neg e]
 have k:=h.1 j j0 hj e
 rw[hpj]at k
 exact up.trans k
theorem aK5 {l:List aM} {i:Nat} (h:jF l i) (hm: ∀j,0<j→j<l.length→par j=i→Le (tat l i) (tat l j)):dL l:=by
 intro j j0 hj
 by_cases e:par j=i
 ·rw[e];exact hm j j0 hj e
 exact h.1 j j0 hj e
theorem aHv {l:List aM} {i c:Nat} (h:jF l i) (hi:i<l.length) (hc:c<l.length) (c0:0<c) (hp:par c=i) (hci:Le (tat l c) (tat l i)) (hm: ∀j,0<j→j<l.length→par j=i→Le (tat l c) (tat l j)):jF (swp l i c) c:=by
 have hlt:=eR c0
 have A:=jD (l:=l) hi hc
 refine⟨fun j j0 hj hne=> ?_,fun j j0 hj hpj _=> ?_⟩
 ·rw[gX]at hj
  rw[A,A,if_neg hne]
  by_cases e:j=c
  ·subst e
   rw[if_pos rfl,if_pos hp];exact hci
  rw[if_neg e]
  by_cases e2:par j=i
  ·have:j≠i:=by have:=eR j0;omega
   rw[if_pos e2,if_neg this];exact hm j j0 hj e2
  rw[if_neg e2]
  by_cases e3:j=i
  ·subst e3
   rw[if_pos rfl];exact h.2 c c0 hc hp j0
  rw[if_neg e3];exact h.1 j j0 hj e2
 rw[gX]at hj
 have hj':=eR j0
 rw[A,A,if_neg (by omega),if_pos hp,if_neg (by omega),if_neg (by omega)]
 have:=h.1 j j0 hj (by omega)
 rwa [hpj]at this
theorem zH {l:List aM} (h:dL l) (j:Nat) (hj:j<l.length):Le (tat l 0) (tat l j):=by
 induction j using Nat.strongRecOn with
 |_ j ih=>
  by_cases h0:j=0
  ·subst h0;exact Le.refl _
  have hp:=eR (j:=j) (by omega)
  exact(ih (par j) hp (by omega)).trans (h j (by omega) hj)
theorem aAq {l:List aM} {n k:Nat} (hk:k<n):tat (l.take n) k=tat l k:=by
 unfold tat
 simp[List.getD_eq_getElem?_getD,hk]
theorem aJu {l:List aM} (h:dL l) (n:Nat) (hn:l.length=n+1):jF ((swp l 0 n).take n) 0:=by
 have A:=jD (l:=l) (i:=0) (j:=n) (by omega) (by omega)
 have hl:((swp l 0 n).take n).length=n:=by rw[List.length_take,gX];omega
 refine⟨fun j j0 hj hne=> ?_,fun j j0 hj hpj h0=>by omega⟩
 rw[hl]at hj
 have hp:=eR j0
 rw[aAq (by omega),aAq hj,A,A,if_neg (by omega),if_neg hne,if_neg (by omega),if_neg (by omega)]
 exact h j j0 (by omega)
theorem aAp {l:List aM} {t:aM} {k:Nat} (hk:k<l.length):tat (l++[t]) k=tat l k:=by
 unfold tat
 simp[List.getD_eq_getElem?_getD,List.getElem?_append_left hk]
theorem aHc {l:List aM} (h:dL l) (t:aM):kR (l++[t]) l.length:=by
 refine⟨fun j j0 hj hne=> ?_,fun j j0 hj hpj h0=> ?_⟩
 ·simp at hj
  have hp:=eR j0
  rw[aAp (by omega),aAp (by omega)]
  exact h j j0 (by omega)
 simp at hj
 have hp:=eR j0
 omega
theorem aLx {l:List aM} {i:Nat} {t:aM} (hi:i<l.length) (k:Nat):tat (l.set i t) k=if k=i then t else tat l k:=by
 unfold tat
 simp only[List.getD_eq_getElem?_getD,List.getElem?_set]
 by_cases h:i=k
 ·subst h;simp[hi]
 have h': ¬k=i:=fun e=>h e.symm
 simp[h,h']
theorem aEb {l:List aM} (h:dL l) {i:Nat} (hi:i<l.length) {t:aM} (ht:Le t (tat l i)):kR (l.set i t) i:=by
 have A:=aLx (l:=l) (t:=t) hi
 refine⟨fun j j0 hj hne=> ?_,fun j j0 hj hpj h0=> ?_⟩
 ·simp at hj
  rw[A,A,if_neg hne]
  have:=h j j0 hj
  by_cases e:par j=i
  ·rw[if_pos e];rw[e]at this;exact ht.trans this
  rw[if_neg e];exact this
 simp at hj
 have hp:=eR j0
 have hq:=eR h0
 rw[A,A,if_neg (by omega),if_neg (by omega)]
 have k1:=h j j0 hj
 rw[hpj]at k1
 exact(h i h0 hi).trans k1
def eD (l:List Int) (x:Int):Option Int:=(l.findIdx? (· ==x)).map fun i:Nat=>(i:Int)
def ids (l:List aM):List Int:=l.map (·.1)
theorem dI (l:List aM):(ids l).length=l.length:=by simp[ids]
theorem dH {l:List aM} {i:Nat} (h:i<l.length):(ids l)[i]? =some (tat l i).1:=by simp[ids,h,dP h]
theorem nD {l:List Int} {x:Int}:(eD l x).isSome=decide (x∈l):=by
 unfold eD
 rw[Option.isSome_map,List.findIdx?_isSome,Bool.eq_iff_iff]
 simp[List.any_eq_true]
theorem nC {l:List Int} {x:Int} (h:x∉l):eD l x=none:=by
 have:=nD (l:=l) (x:=x)
 cases hh:eD l x
 ·rfl
 rw[hh]at this;simp[h]at this
theorem oH {l:List Int} (hn:l.Nodup) {i:Nat} {x:Int} (h:l[i]? =some x):eD l x=some (i:Int):=by
 unfold eD
 obtain⟨hi,hx⟩:=List.getElem?_eq_some_iff.1 h
 have:l.findIdx? (· ==x)=some i:=by
  rw[List.findIdx?_eq_some_iff_getElem]
  refine⟨hi,by simp[hx],fun j hj=> ?_⟩
  have hne:l[j]'(by omega)≠l[i]:=fun e=>by
   have:=(List.getElem_inj (h₀:=(by omega:j<l.length)) (h₁:=hi) hn).1 e
   omega
  simpa [hx] using hne
 rw[this];rfl
theorem sL {l:List Int} (hn:l.Nodup) {f:Int→Option Int} (h1: ∀(i:Nat) (x:Int),l[i]? =some x→f x=some (i:Int)) (h2: ∀x,x∉l→f x=none) (x:Int):f x=eD l x:=by
 by_cases hx:x∈l
 ·obtain⟨i,hi,rfl⟩:=List.getElem_of_mem hx
  have e:l[i]? =some l[i]:=List.getElem?_eq_getElem hi
  rw[h1 i _ e,oH hn e]
 rw[h2 x hx,nC hx]
theorem kD {l m:List aM} (h:l.Perm m):(ids l).Perm (ids m):=h.map _
def aJ:Int:=18446744073709551615
structure Net where
 n:Nat
 op:Nat→Bool
 cost:Nat→Int
 adj:Nat→List Nat
 pos: ∀v,op v=true→1≤cost v
 top: ∀v,op v=true→cost v≤65535
 lt: ∀v,op v=true→v<n
 sym: ∀u v,op u=true→op v=true→u∈adj v→v∈adj u
structure IsFar (G:Net) (s:Nat) (f:Nat→Int):Prop where
 start:G.op s=true→f s=0
 shut: ∀v,G.op v=false→f v=aJ
 nn: ∀v,0≤f v
 le: ∀v,f v≤aJ
 near: ∀v,G.op v=true→v≠s→ ∀u,u∈G.adj v→G.op u=true→f u+G.cost v<aJ→f v≤f u+G.cost v
 from_: ∀v,G.op v=true→v≠s→f v<aJ→ ∃u,u∈G.adj v∧G.op u=true∧f u+G.cost v=f v
theorem IsFar.open_ {G:Net} {s:Nat} {f:Nat→Int} (h:IsFar G s f) {v:Nat} (hv:f v<aJ):G.op v=true:=by
 cases ho:G.op v
 ·rw[h.shut v ho]at hv;omega
 rfl
theorem IsFar.le_of {G:Net} {s:Nat} {f g:Nat→Int} (hf:IsFar G s f) (hg:IsFar G s g): ∀(k:Nat) (v:Nat),f v=(k:Int)→f v<aJ→g v≤f v:=by
 intro k
 induction k using Nat.strongRecOn with
 |_ k ih=>
  intro v hv hk
  have ho:=hf.open_ hk
  by_cases hs:v=s
  ·subst hs
   rw[hf.start ho,hg.start ho];exact Int.le_refl _
  obtain⟨u,hu,huo,he⟩:=hf.from_ v ho hs hk
  have hc:=G.pos v ho
  have hn:=hf.nn u
  have h1:=ih (f u).toNat (by omega) u (by omega) (by omega)
  have h2:=hg.near v ho hs u hu huo (by omega)
  omega
theorem IsFar.same {G:Net} {s:Nat} {f g:Nat→Int} (hf:IsFar G s f) (hg:IsFar G s g) (v:Nat):f v=g v:=by
 have a:=hf.le v
 have b:=hg.le v
 have c:=hf.nn v
 have d:=hg.nn v
 by_cases h:f v<aJ
 ·have h1:=hf.le_of hg (f v).toNat v (by omega) h
  have h2:=hg.le_of hf (g v).toNat v (by omega) (by omega)
  omega
 by_cases h':g v<aJ
 ·have:=hg.le_of hf (g v).toNat v (by omega) h'
  omega
 omega
inductive Way (G:Net) (s:Nat):Nat→Int→Prop where
 |start:G.op s=true→Way G s s 0
 |step {u v:Nat} {c:Int}:Way G s u c→u∈G.adj v→G.op v=true→Way G s v (c+G.cost v)
theorem Way.ends {G:Net} {s v:Nat} {c:Int} (h:Way G s v c):G.op s=true∧G.op v=true∧0≤c:=by
 induction h with
 |start h=>exact⟨h,h,Int.le_refl _⟩
 |step _ _ ho ih=>exact⟨ih.1,ho,by have:=G.pos _ ho;omega⟩
theorem Way.cast {G:Net} {s v:Nat} {c d:Int} (h:Way G s v c) (e:c=d):Way G s v d:=e▸h
theorem Way.concat {G:Net} {a b d:Nat} {x y:Int} (h:Way G a b x) (k:Way G b d y):Way G a d (x+y):=by
 induction k with
 |start _=>exact h.cast (by omega)
 |step _ hu ho ih=>exact(Way.step ih hu ho).cast (by omega)
theorem Way.back {G:Net} {s t:Nat} {c:Int} (h:Way G s t c):Way G t s (c+G.cost s-G.cost t):=by
 induction h with
 |start h=>exact(Way.start h).cast (by omega)
 |step w hu ho ih=>
  have e:=w.ends
  exact((Way.step (Way.start ho) (G.sym _ _ e.2.1 ho hu) e.2.1).concat ih).cast (by omega)
theorem IsFar.way {G:Net} {s:Nat} {f:Nat→Int} (hf:IsFar G s f): ∀(k:Nat) (v:Nat),f v=(k:Int)→f v<aJ→Way G s v (f v):=by
 intro k
 induction k using Nat.strongRecOn with
 |_ k ih=>
  intro v hv hk
  have ho:=hf.open_ hk
  by_cases hs:v=s
  ·subst hs
   rw[hf.start ho];exact .start ho
  obtain⟨u,hu,huo,he⟩:=hf.from_ v ho hs hk
  have hc:=G.pos v ho
  have hn:=hf.nn u
  exact(Way.step (ih (f u).toNat (by omega) u (by omega) (by omega)) hu ho).cast he
theorem IsFar.way_of {G:Net} {s:Nat} {f:Nat→Int} (hf:IsFar G s f) {v:Nat} (h:f v<aJ):Way G s v (f v):=
 hf.way (f v).toNat v (by have:=hf.nn v;omega) h
def fT (G:Net) (f:Nat→Int):Prop:= ∀v,f v<aJ→f v≤65535*(G.n:Int)
def bQ (f:Nat→Int) (j:Nat) (x:Int) (v:Nat):Int:=if v=j then x else f v
theorem dC (f:Nat→Int) (j:Nat) (x:Int):bQ f j x j=x:=if_pos rfl
theorem cW (f:Nat→Int) {j v:Nat} (x:Int) (h:v≠j):bQ f j x v=f v:=if_neg h
structure Dij (G:Net) (K:Nat→Int×Int) (s:Nat) (far:Nat→Int) (ts:List aM) (S:List Nat) (pend:Nat→Nat→Prop):Prop where
 nn: ∀v,0≤far v
 le: ∀v,far v≤aJ
 shut: ∀v,G.op v=false→far v=aJ
 start:far s=0
 nodupS:S.Nodup
 inS: ∀v,v∈S→far v<aJ
 nodupT:(ids ts).Nodup
 thing: ∀t,t∈ts→ ∃v:Nat,t=((v:Int),((far v,0),K v))∧v∉S∧far v<aJ
 fin: ∀v,far v<aJ→v∈S∨(v:Int)∈ids ts
 ord: ∀u v,u∈S→v∉S→far u≤far v
 relax: ∀u v,u∈S→G.op v=true→u∈G.adj v→ ¬pend u v→far v≤far u+G.cost v
 from_: ∀v,G.op v=true→v≠s→far v<aJ→ ∃u,u∈S∧u∈G.adj v∧far u+G.cost v=far v
 low: ∀v,far v<aJ→far v≤65535*(S.length:Int)
variable {G:Net} {K:Nat→Int×Int} {s:Nat} {far:Nat→Int} {ts ts':List aM} {S:List Nat} {pend pend':Nat→Nat→Prop}
theorem Dij.open_ (D:Dij G K s far ts S pend) {v:Nat} (h:far v<aJ):G.op v=true:=by
 cases ho:G.op v
 ·rw[D.shut v ho]at h;omega
 rfl
theorem Dij.perm (D:Dij G K s far ts S pend) (h:ts'.Perm ts):Dij G K s far ts' S pend:=
 {D with
  nodupT:=(kD h).nodup_iff.2 D.nodupT
  thing:=fun t ht=>D.thing t (h.mem_iff.1 ht)
  fin:=fun v hv=>(D.fin v hv).imp id fun k=>(kD h).mem_iff.2 k}
theorem Dij.weaken (D:Dij G K s far ts S pend) (h: ∀u v,u∈S→G.op v=true→u∈G.adj v→pend u v→pend' u v):Dij G K s far ts S pend':=
 {D with relax:=fun u v hu hv ha hp=>D.relax u v hu hv ha fun k=>hp (h u v hu hv ha k)}
theorem aFz (hs:G.op s=true):Dij G K s (bQ (fun _=>aJ) s 0) [((s:Int),((0,0),K s))] [] (fun _ _=>False) where
 nn v:=by unfold bQ;split<;>simp[aJ]
 le v:=by unfold bQ;split<;>simp[aJ]
 shut v hv:=by
  unfold bQ
  split
  ·next e=>subst e;rw[hs]at hv;cases hv
  rfl
 start:=dC _ _ _
 nodupS:=List.nodup_nil
 inS v hv:=by cases hv
 nodupT:=by simp[ids]
 thing t ht:=by
  simp only[List.mem_singleton]at ht
  subst ht
  exact⟨s,by rw[dC],by simp,by rw[dC];decide⟩
 fin v hv:=by
  right
  unfold bQ at hv
  split at hv
  ·next e=>subst e;simp[ids]
  exact absurd hv (Int.lt_irrefl _)
 ord u v hu:=by cases hu
 relax u v hu:=by cases hu
 from_ v _ hv hf:=by rw[cW _ _ hv]at hf;exact absurd hf (Int.lt_irrefl _)
 low v hv:=by
  unfold bQ at hv⊢
  split at hv
  ·next e=>rw[if_pos e];simp
  exact absurd hv (Int.lt_irrefl _)
theorem aL8 (D:Dij G K s far ts S (fun _ _=>False)) (hok:dL ts) (hp:(tat ts 0::ts').Perm ts):
  ∃i:Nat,tat ts 0=((i:Int),((far i,0),K i))∧i∉S∧far i<aJ∧(∀u,u∈i::S→far u≤far i)∧far i+65535≤65535*((i::S).length:Int)∧Dij G K s far ts' (i::S) (fun u v=>u=i∧v∈G.adj i):=by
 have hmem:tat ts 0∈ts:=hp.mem_iff.1 List.mem_cons_self
 obtain⟨i,hi,hiS,hif⟩:=D.thing _ hmem
 have D':=D.perm hp
 have hnd:=D'.nodupT
 rw[show ids (tat ts 0::ts')=(tat ts 0).1::ids ts' from rfl,List.nodup_cons,hi]at hnd
 have hmin: ∀v,v∉S→far i≤far v:=fun v hv=>by
  by_cases hf:far v<aJ
  ·rcases D.fin v hf with h|h
   ·exact absurd h hv
   obtain⟨t,ht,hte⟩:=List.mem_map.1 h
   obtain⟨v',e,_,_⟩:=D.thing t ht
   obtain⟨k,hk,hkt⟩:=List.mem_iff_getElem.1 ht
   have hl:=zH hok k hk
   rw[dP hk,hkt,hi,le_iff,e]at hl
   rw[e]at hte
   have:v'=v:=by simp only at hte;omega
   subst this
   simp only at hl
   omega
  omega
 have hiop:=D.open_ hif
 have hlow:=D.low i hif
 refine⟨i,hi,hiS,hif,fun u hu=> ?_,by simp only[List.length_cons];push_cast;omega,?_⟩
 ·rcases List.mem_cons.1 hu with rfl|hu
  ·exact Int.le_refl _
  exact D.ord u i hu hiS
 exact {
 nn:=D.nn,le:=D.le,shut:=D.shut,start:=D.start
 nodupS:=List.nodup_cons.2 ⟨hiS,D.nodupS⟩
 inS:=fun v hv=>by
  rcases List.mem_cons.1 hv with rfl|hv
  ·exact hif
  exact D.inS v hv
 nodupT:=hnd.2
 thing:=fun t ht=>by
  obtain⟨v,e,h1,h2⟩:=D'.thing t (List.mem_cons_of_mem _ ht)
  refine⟨v,e,fun hm=> ?_,h2⟩
  rcases List.mem_cons.1 hm with rfl|hm
  ·exact hnd.1 (List.mem_map.2 ⟨t,ht,by rw[e]⟩)
  exact h1 hm
 fin:=fun v hv=>by
  rcases D'.fin v hv with h|h
  ·exact .inl (List.mem_cons_of_mem _ h)
  rw[show ids (tat ts 0::ts')=(tat ts 0).1::ids ts' from rfl,hi]at h
  rcases List.mem_cons.1 h with h|h
  ·have:v=i:=by simp only at h;omega
   subst this
   exact .inl List.mem_cons_self
  exact .inr h
 ord:=fun u v hu hv=>by
  have hv':v∉S:=fun h=>hv (List.mem_cons_of_mem _ h)
  rcases List.mem_cons.1 hu with rfl|hu
  ·exact hmin v hv'
  exact D.ord u v hu hv'
 relax:=fun u v hu hv ha hp=>by
  rcases List.mem_cons.1 hu with rfl|hu
  ·exact absurd ⟨rfl,G.sym _ _ hiop hv ha⟩ hp
  exact D.relax u v hu hv ha (fun x=>x)
 from_:=fun v h1 h2 h3=>by
  obtain⟨u,h4,h5⟩:=D.from_ v h1 h2 h3
  exact⟨u,List.mem_cons_of_mem _ h4,h5⟩
 low:=fun v hv=>by
  have:=D.low v hv
  simp only[List.length_cons]
  push_cast
  omega}
theorem yN {i j:Nat} {x:Int} (D:Dij G K s far ts S pend) (hi:i∈S) (htop: ∀u,u∈S→far u≤far i) (hlow:far i+65535≤65535*(S.length:Int)) (hs:S.length≤1000000)
  (hj:G.op j=true) (ha:i∈G.adj j) (hx:x=far i+G.cost j) (hlt:x<far j)
  (hnd:(ids ts').Nodup) (hth: ∀t,t∈ts'→t=((j:Int),((x,0),K j))∨t∈ts∧t.1≠(j:Int)) (hid: ∀v:Int,v=j∨v∈ids ts→v∈ids ts'):
  j∉S∧x<aJ∧Dij G K s (bQ far j x) ts' S (fun u v=>pend u v∧ ¬(u=i∧v=j)):=by
 have hp:=G.pos j hj
 have ht:=G.top j hj
 have hn:=D.nn i
 have hjS:j∉S:=fun h=>by have:=htop j h;omega
 have hxi:x<aJ:=by have:=D.le j;omega
 have hjs:j≠s:=fun e=>by subst e;have:=D.start;omega
 have hne: ∀u,u∈S→u≠j:=fun u hu e=>hjS (e▸hu)
 refine⟨hjS,hxi,?_⟩
 exact {
  nn:=fun v=>by
   unfold bQ
   split
   ·omega
   exact D.nn v
  le:=fun v=>by
   unfold bQ
   split
   ·omega
   exact D.le v
  shut:=fun v hv=>by
   rw[cW _ _ (fun e=>by subst e;rw[hj]at hv;cases hv)]
   exact D.shut v hv
  start:=by rw[cW _ _ (fun e=>hjs e.symm)];exact D.start
  nodupS:=D.nodupS
  inS:=fun v hv=>by rw[cW _ _ (hne v hv)];exact D.inS v hv
  nodupT:=hnd
  thing:=fun t h=>by
   rcases hth t h with rfl|⟨h1,h2⟩
   ·exact⟨j,by rw[dC],hjS,by rw[dC];exact hxi⟩
   obtain⟨v,e,h3,h4⟩:=D.thing t h1
   have:v≠j:=fun h=>h2 (by rw[e,h])
   exact⟨v,by rw[cW _ _ this];exact e,h3,by rw[cW _ _ this];exact h4⟩
  fin:=fun v hv=>by
   by_cases e:v=j
   ·exact .inr (hid _ (.inl (by rw[e])))
   rw[cW _ _ e]at hv
   exact(D.fin v hv).imp id fun k=>hid _ (.inr k)
  ord:=fun u v hu hv=>by
   rw[cW _ _ (hne u hu)]
   by_cases e:v=j
   ·subst e;rw[dC];have:=htop u hu;omega
   rw[cW _ _ e];exact D.ord u v hu hv
  relax:=fun u v hu hv hb hq=>by
   rw[cW _ _ (hne u hu)]
   by_cases e:v=j
   ·subst e
    rw[dC]
    by_cases eu:u=i
    ·subst eu;omega
    have:=D.relax u v hu hv hb fun h=>hq ⟨h,fun k=>eu k.1⟩
    omega
   rw[cW _ _ e]
   exact D.relax u v hu hv hb fun h=>hq ⟨h,fun k=>e k.2⟩
  from_:=fun v h1 h2 h3=>by
   by_cases e:v=j
   ·subst e
    exact⟨i,hi,ha,by rw[cW _ _ (hne i hi),dC,hx]⟩
   rw[cW _ _ e]at h3⊢
   obtain⟨u,h4,h5,h6⟩:=D.from_ v h1 h2 h3
   exact⟨u,h4,h5,by rw[cW _ _ (hne u h4)];exact h6⟩
  low:=fun v hv=>by
   by_cases e:v=j
   ·subst e;rw[dC];omega
   rw[cW _ _ e]at hv⊢;exact D.low v hv}
theorem Dij.ids_fin (D:Dij G K s far ts S pend) {v:Nat} (h:(v:Int)∈ids ts):v∉S∧far v<aJ:=by
 obtain⟨t,ht,he⟩:=List.mem_map.1 h
 obtain⟨v',e,h1,h2⟩:=D.thing t ht
 rw[e]at he
 have:v'=v:=by simp only at he;omega
 subst this
 exact⟨h1,h2⟩
theorem aIs {i j:Nat} {x:Int} (D:Dij G K s far ts S pend) (hi:i∈S) (htop: ∀u,u∈S→far u≤far i) (hlow:far i+65535≤65535*(S.length:Int)) (hs:S.length≤1000000)
  (hj:G.op j=true) (ha:i∈G.adj j) (hx:x=far i+G.cost j) (hinf:far j=aJ) (hp:ts'.Perm (ts++[((j:Int),((x,0),K j))])):
  Dij G K s (bQ far j x) ts' S (fun u v=>pend u v∧ ¬(u=i∧v=j)):=by
 have ht:=G.top j hj
 have hj':(j:Int)∉ids ts:=fun h=>by have:=(D.ids_fin h).2;omega
 refine(yN (ts':=ts++[((j:Int),((x,0),K j))]) D hi htop hlow hs hj ha hx (by have:aJ=18446744073709551615:=rfl;omega) ?_ ?_ ?_).2.2.perm hp
 ·rw[show ids (ts++[((j:Int),((x,0),K j))])=ids ts++[(j:Int)] by simp[ids]]
  refine List.nodup_append.2 ⟨D.nodupT,by simp,fun a h1 b h2=> ?_⟩
  simp only[List.mem_singleton]at h2
  subst h2
  exact fun e=>hj' (e▸h1)
 ·intro t h
  rcases List.mem_append.1 h with h|h
  ·exact .inr ⟨h,fun e=>hj' (e▸List.mem_map.2 ⟨t,h,rfl⟩)⟩
  exact .inl (by simpa using h)
 intro v h
 rw[show ids (ts++[((j:Int),((x,0),K j))])=ids ts++[(j:Int)] by simp[ids]]
 rcases h with rfl|h
 ·simp
 exact List.mem_append.2 (.inl h)
theorem aG0 {i j:Nat} {x:Int} (D:Dij G K s far ts S pend) (htop: ∀u,u∈S→far u≤far i) (hj:G.op j=true) (hx:x=far i+G.cost j) (hinf:far j<aJ) (hlt:x<far j):
  ∃k,k<ts.length∧tat ts k=((j:Int),((far j,0),K j)):=by
 have hp:=G.pos j hj
 rcases D.fin j hinf with h|h
 ·have:=htop j h;omega
 obtain⟨t,ht,he⟩:=List.mem_map.1 h
 obtain⟨v',e,h1,h2⟩:=D.thing t ht
 rw[e]at he
 have:v'=j:=by simp only at he;omega
 subst this
 obtain⟨k,hk,hkt⟩:=List.mem_iff_getElem.1 ht
 exact⟨k,hk,by rw[dP hk,hkt,e]⟩
theorem aFy {i j k:Nat} {x:Int} (D:Dij G K s far ts S pend) (hi:i∈S) (htop: ∀u,u∈S→far u≤far i) (hlow:far i+65535≤65535*(S.length:Int)) (hs:S.length≤1000000)
  (hj:G.op j=true) (ha:i∈G.adj j) (hx:x=far i+G.cost j) (hlt:x<far j) (hk:k<ts.length) (hat:tat ts k=((j:Int),((far j,0),K j))) (hp:ts'.Perm (ts.set k ((j:Int),((x,0),K j)))):
  Dij G K s (bQ far j x) ts' S (fun u v=>pend u v∧ ¬(u=i∧v=j)):=by
 have hids:ids (ts.set k ((j:Int),((x,0),K j)))=ids ts:=by
  unfold ids
  apply List.ext_getElem?
  intro m
  rw[List.getElem?_map,List.getElem?_map,List.getElem?_set]
  by_cases e:k=m
  ·subst e
   have:ts[k]=((j:Int),((far j,0),K j)):=by rw[←dP hk];exact hat
   simp[hk,this]
  simp[e]
 refine(yN (ts':=ts.set k ((j:Int),((x,0),K j))) D hi htop hlow hs hj ha hx hlt (by rw[hids];exact D.nodupT) ?_ ?_).2.2.perm hp
 ·intro t h
  obtain⟨m,hm,he⟩:=List.mem_iff_getElem.1 h
  rw[List.length_set]at hm
  rw[List.getElem_set]at he
  split at he
  ·exact .inl he.symm
  next hkm=>
  refine .inr ⟨he▸List.getElem_mem hm,fun e=>hkm ?_⟩
  have hnd:=D.nodupT
  have a1:(ids ts)[k]'(by rw[dI];exact hk)=(j:Int):=by
   have:=dH hk
   rw[hat]at this
   exact(List.getElem?_eq_some_iff.1 this).2
  have a2:(ids ts)[m]'(by rw[dI];exact hm)=(j:Int):=by
   have:=dH hm
   rw[dP hm,he,e]at this
   exact(List.getElem?_eq_some_iff.1 this).2
  exact(List.getElem_inj (h₀:=by rw[dI];exact hk) (h₁:=by rw[dI];exact hm) hnd).1 (a1.trans a2.symm)
 intro v h
 rw[hids]
 rcases h with rfl|h
 ·have:=dH hk
  rw[hat]at this
  exact List.mem_of_getElem? this
 exact h
theorem aIt {i j:Nat} (D:Dij G K s far ts S pend) (h:far j≤far i+G.cost j):Dij G K s far ts S (fun u v=>pend u v∧ ¬(u=i∧v=j)):=
 {D with
  relax:=fun u v hu hv ha hp=>by
   by_cases e:u=i∧v=j
   ·obtain⟨rfl,rfl⟩:=e;exact h
   exact D.relax u v hu hv ha fun k=>hp ⟨k,e⟩}
theorem nA {α:Type} [DecidableEq α]: ∀{l m:List α},l.Nodup→(∀v,v∈l→v∈m)→l.length≤m.length
 |[],_,_,_=>Nat.zero_le _
 |a::l,m,h,hb=>by
  rw[List.nodup_cons]at h
  have hm:=hb a List.mem_cons_self
  have:=nA (l:=l) (m:=m.erase a) h.2 fun v hv=>(List.mem_erase_of_ne (fun e:v=a=>h.1 (by rw[←e];exact hv))).2 (hb v (List.mem_cons_of_mem _ hv))
  rw[List.length_erase_of_mem hm]at this
  have:0<m.length:=List.length_pos_of_mem hm
  simp only[List.length_cons]
  omega
theorem fR {l:List Nat} {n:Nat} (h:l.Nodup) (hb: ∀v,v∈l→v<n):l.length≤n:=by
 have:=nA h (m:=List.range n) fun v hv=>List.mem_range.2 (hb v hv)
 simpa using this
theorem Dij.few (D:Dij G K s far ts S pend):S.length≤G.n:=fR D.nodupS fun v hv=>G.lt v (D.open_ (D.inS v hv))
theorem Dij.waits (D:Dij G K s far ts S pend):ts.length≤G.n:=by
 have:=nA D.nodupT (m:=(List.range G.n).map (fun v:Nat=>(v:Int))) fun t ht=>by
  obtain⟨x,hx,he⟩:=List.mem_map.1 ht
  obtain⟨v,e,_,h2⟩:=D.thing x hx
  exact List.mem_map.2 ⟨v,List.mem_range.2 (G.lt v (D.open_ h2)),by rw[←he,e]⟩
 rw[dI]at this
 simpa using this
theorem aL7 (D:Dij G K s far [] S (fun _ _=>False)):IsFar G s far∧fT G far:=by
 have hS: ∀v,far v<aJ→v∈S:=fun v hv=>(D.fin v hv).resolve_right (by simp[ids])
 refine⟨⟨fun _=>D.start,D.shut,D.nn,D.le,fun v ho _ u hu huo hf=> ?_,fun v ho hs hf=> ?_⟩,fun v hv=> ?_⟩
 ·exact D.relax u v (hS u (by have:=G.pos v ho;omega)) ho hu (fun x=>x)
 ·obtain⟨u,h1,h2,h3⟩:=D.from_ v ho hs hf
  exact⟨u,h2,D.open_ (D.inS u h1),h3⟩
 have:=D.low v hv
 have:=D.few
 omega
end Go.Proofs.YtaellcgglldjaaaGreat

