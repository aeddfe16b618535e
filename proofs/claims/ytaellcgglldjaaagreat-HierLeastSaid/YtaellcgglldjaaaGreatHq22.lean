/- Part of a proof: StarL HierS FloodQ NetP. -/
import Derived.Test.YtaellcgglldjaaaGreatHq21
import Derived.Test.YtaellcgglldjaaaGreatHq09
set_option linter.all false
set_option linter.unusedVariables false
set_option linter.unusedSimpArgs false
namespace Go.Proofs.YtaellcgglldjaaaGreat

theorem vC (a:fC):bE a a=false:=by
 cases h:bE a a
 ·rfl
 ·rw[lessB_iff]at h;omega
theorem aFf {a b c:fC} (h:bE a b=true) (k:bE c b=false):bE c a=false:=by
 cases l:bE c a
 ·rfl
 ·have:bE c b=true:=by rw[lessB_iff]at h l⊢;omega
  rw[this]at k;cases k
def fS (W:Int) (h:Nat→Int) (A:AS):Nat→Option Nat
 |0=>none
 |i+1=>match fS W h A i with
  |none=>if A.st i=1 then some i else none
  |some j=>if A.st i=1∧bE (kOf W h A i) (kOf W h A j)=true then some i else some j
theorem nM {W:Int} {h:Nat→Int} {A:AS}: ∀{n:Nat},fS W h A n=none→ ∀v,v<n→A.st v≠1
 |0,_=>fun v hv=>absurd hv (Nat.not_lt_zero v)
 |i+1,hb=>fun v hv=>by
  unfold fS at hb
  cases hj:fS W h A i
  ·rw[hj]at hb
   simp only at hb
   split at hb
   ·cases hb
   ·next h1=>
    by_cases e:v=i
    ·rw[e];exact h1
    ·exact nM hj v (by omega)
  ·rw[hj]at hb
   simp only at hb
   split at hb<;>cases hb
theorem iB {W:Int} {h:Nat→Int} {A:AS}: ∀{n j:Nat},fS W h A n=some j→j<n∧A.st j=1∧ ∀v,v<n→A.st v=1→bE (kOf W h A v) (kOf W h A j)=false
 |0,_,hb=>by cases hb
 |i+1,j,hb=>by
  unfold fS at hb
  cases hj:fS W h A i
  ·rw[hj]at hb
   simp only at hb
   have hno:=nM hj
   split at hb
   ·next h1=>
    cases hb
    refine⟨by omega,h1,fun v hv hv1=> ?_⟩
    by_cases e:v=i
    ·rw[e];exact vC _
    ·exact absurd hv1 (hno v (by omega))
   ·cases hb
  ·rename_i m
   rw[hj]at hb
   simp only at hb
   obtain⟨m1,m2,m3⟩:=iB hj
   split at hb
   ·next h1=>
    cases hb
    refine⟨by omega,h1.1,fun v hv hv1=> ?_⟩
    by_cases e:v=i
    ·rw[e];exact vC _
    ·exact aFf h1.2 (m3 v (by omega) hv1)
   ·next h1=>
    cases hb
    refine⟨by omega,m2,fun v hv hv1=> ?_⟩
    by_cases e:v=i
    ·rw[e]at hv1⊢
     cases k:bE (kOf W h A i) (kOf W h A j)
     ·rfl
     ·exact absurd ⟨hv1,k⟩ h1
    ·exact m3 v (by omega) hv1
theorem aCf {G:Net} {W:Int} {h:Nat→Int} {A:AS} {v:Nat} (hb:fS W h A G.n=some v) (hlt: ∀u,A.st u=1→u<G.n):dA W h A v:=
 ⟨(iB hb).2.1,fun u hu=>(iB hb).2.2 u (hlt u hu) hu⟩
def jW (came:Nat→Int):Nat→Nat→Option (List Nat)
 |0,_=>none
 |k+1,v=>if came v<0 then some [v] else(jW came k (came v).toNat).map (v:: ·)
theorem oU {came:Nat→Int}: ∀{k v:Nat} {l:List Nat},jW came k v=some l→Chain came v l
 |0,_,_,h=>by cases h
 |k+1,v,l,h=>by
  unfold jW at h
  split at h
  ·next h0=>cases h;exact .stop h0
  ·next h0=>
   cases hc:jW came k (came v).toNat
   ·rw[hc]at h;cases h
   ·rw[hc]at h
    cases h
    exact .go (by omega) (oU hc)
def aIm (G:Net) (W:Int) (h:Nat→Int) (t:Nat) (b:Int):Nat→AS→Option (List Nat×Int×Int×Int)
 |0,_=>none
 |k+1,A=>match fS W h A G.n with
  |none=>some ([],0,A.cnt,22)
  |some v=>if A.cnt=b then some ([],0,A.cnt,23) else if v=t then(jW A.came (G.n+1) t).map (fun l=>(l.reverse,A.g t,A.cnt+1,0)) else aIm G W h t b k (jO G A v)
theorem aLu (G:Net) (c:Nat) (A:AS) (m u:Nat):(rx G c A m).st u=A.st u∨(u=m∧(rx G c A m).st u=1∧A.st u≠2):=by
 unfold rx
 split
 ·next h=>
  by_cases e:u=m
  ·subst e;right;exact⟨rfl,bH _ _ _,by rcases h with h|h<;>omega⟩
  ·left;exact gC _ _ e
 ·left;rfl
theorem aM2 (G:Net) (c:Nat) (A:AS) (m:Nat):(rx G c A m).cnt=A.cnt:=by
 unfold rx;split<;>rfl
theorem aJa (G:Net) (c:Nat) (A:AS) (m u:Nat) (h:A.st u=2):(rx G c A m).st u=2∧(rx G c A m).g u=A.g u∧(rx G c A m).came u=A.came u:=by
 unfold rx
 split
 ·next k=>
  have hne:u≠m:=fun e=>by subst e;rcases k with k|k<;>omega
  exact⟨(gC _ _ hne).trans h,gB _ _ hne,gB _ _ hne⟩
 ·exact⟨h,rfl,rfl⟩
theorem aGc (G:Net) (c:Nat): ∀(l:List Nat) (A:AS) (u:Nat),(rxs G c A l).st u=A.st u∨(u∈l∧(rxs G c A l).st u=1∧A.st u≠2)
 |[],_,_=> .inl rfl
 |m::l,A,u=>by
  show(rxs G c (rx G c A m) l).st u=_∨_∧(rxs G c (rx G c A m) l).st u=1∧_
  rcases aGc G c l (rx G c A m) u with h|⟨h1,h2,h3⟩
  ·rcases aLu G c A m u with k|⟨k1,k2,k3⟩
   ·exact .inl (h.trans k)
   ·exact .inr ⟨k1▸List.mem_cons_self,h.trans k2,k3⟩
  ·refine .inr ⟨List.mem_cons_of_mem _ h1,h2,fun e=> ?_⟩
   exact h3 (aJa G c A m u e).1
theorem aJb (G:Net) (c:Nat): ∀(l:List Nat) (A:AS),(rxs G c A l).cnt=A.cnt
 |[],_=>rfl
 |m::l,A=>(aJb G c l (rx G c A m)).trans (aM2 G c A m)
theorem zQ (G:Net) (A:AS) (v u:Nat):(u=v∧A.st v≠2→(jO G A v).st u=2)∧((jO G A v).st u=2→u=v∨A.st u=2)∧((jO G A v).st u=1→A.st u=1∨u∈G.adj v):=by
 have hst: ∀x,(A.settle v).st x=if x=v then 2 else A.st x:=fun x=>rfl
 have h:=aGc G v (G.adj v) (A.settle v) u
 rw[hst]at h
 refine⟨fun e=> ?_,fun e=> ?_,fun e=> ?_⟩
 ·rcases h with h|h
  ·exact h.trans (if_pos e.1)
  ·rw[if_pos e.1]at h;exact absurd rfl h.2.2
 ·rcases h with h|h
  ·by_cases k:u=v
   ·exact .inl k
   ·rw[if_neg k]at h;exact .inr (h.symm.trans e)
  ·have:=h.2.1
   have:(jO G A v).st u=1:=this
   omega
 ·rcases h with h|h
  ·by_cases k:u=v
   ·rw[if_pos k]at h;have:(jO G A v).st u=2:=h;omega
   ·rw[if_neg k]at h;exact .inl (h.symm.trans e)
  ·exact .inr h.1
theorem aKn (G:Net) (A:AS) (v:Nat):(jO G A v).cnt=A.cnt+1:=aJb G v _ _
theorem aC4 {G:Net} {W:Int} {h:Nat→Int} {t:Nat} {b:Int} (hadj: ∀v m,m∈G.adj v→m<G.n): ∀{k:Nat} {A:AS} {p:List Nat} {c n e:Int},(∀u,A.st u=1→u<G.n)→aIm G W h t b k A=some (p,c,n,e)→ARun G W h t b A p c n e
 |0,_,_,_,_,_,_,hr=>by cases hr
 |k+1,A,p,c,n,e,hlt,hr=>by
  unfold aIm at hr
  cases hb:fS W h A G.n
  ·rw[hb]at hr
   cases hr
   exact .none fun v hv=>nM hb v (hlt v hv) hv
  ·rename_i v
   rw[hb]at hr
   simp only at hr
   have hB:=aCf (G:=G) hb hlt
   split at hr
   ·next h1=>cases hr;exact .full v hB.1 h1
   ·next h1=>
    split at hr
    ·next h2=>
     subst h2
     cases hc:jW A.came (G.n+1) v
     ·rw[hc]at hr;cases hr
     ·rw[hc]at hr
      cases hr
      exact .found hB h1 (oU hc)
    ·next h2=>
     refine .next hB h1 h2 (aC4 hadj (fun u hu=> ?_) hr)
     rcases (zQ G A v u).2.2 hu with k|k
     ·exact hlt u k
     ·exact hadj v u k
section
variable {G:Net} {D:Nat→Int} {s:Nat} {A:AS} {pend:Nat→Nat→Prop}
theorem zO (F:IsFar G s D) (hn:G.n≤1000000) {c:Nat}: ∀(l:List Nat) {A:AS} {pend:Nat→Nat→Prop},SInv G D s A pend→A.st c=2→(∀m,m∈l→G.op m=true∧m∈G.adj c)→SInv G D s (rxs G c A l) (fun u v=>pend u v∧ ¬(u=c∧v∈l))
 |[],A,pend,I,_,_=>I.weaken fun _ _ _ _ h=>⟨h,fun k=>by cases k.2⟩
 |m::l,A,pend,I,hc,hl=>by
  have hm:=hl m List.mem_cons_self
  have I2:=aC5 I F hn hc hm.1 hm.2
  refine(zO F hn l I2 (aJa G c A m c hc).1 (fun x hx=>hl x (List.mem_cons_of_mem _ hx))).weaken fun u v _ _ h=>⟨h.1.1,fun k=> ?_⟩
  rcases List.mem_cons.1 k.2 with e|e
  ·exact h.1.2 ⟨k.1,e⟩
  ·exact h.2 ⟨k.1,e⟩
theorem aGi (I:SInv G D s A (fun _ _=>False)) (F:IsFar G s D) (hn:G.n≤1000000) {h:Nat→Int} (hg:nL G h) (hadj: ∀v m,m∈G.adj v→G.op m=true) {W:Int} {v:Nat} (hb:dA W h A v):SInv G D s (jO G A v) (fun _ _=>False):=by
 have I1:=qS I hb.1 (pI I F hn hg hb).1
 have h2:(A.settle v).st v=2:=bH _ _ _
 exact(zO F hn (G.adj v) I1 h2 (fun m hm=>⟨hadj v m hm,hm⟩)).weaken fun u x _ _ k=>k.2 k.1
theorem aEf (I:SInv G D s A pend) {K:Net} {v:Nat} {l:List Nat} (hc:Chain A.came v l):A.st v≠0→(∀u,u∈l→K.op u=true∧K.cost u=G.cost u)→(∀u x,u∈l→x∈l→x∈G.adj u→x∈K.adj u)→Way K s v (A.g v):=by
 induction hc with
 |stop h0=>
  rename_i v
  intro hv h1 _
  by_cases e:v=s
  ·subst e
   rw[I.sg]
   exact .start (h1 v List.mem_cons_self).1
  ·obtain⟨u,hu,_⟩:=I.back v hv e
   omega
 |go h0 hcc ih=>
  rename_i v u l
  intro hv h1 h2
  by_cases e:v=s
  ·subst e
   have:=I.sc
   omega
  ·obtain⟨u',hu,k1,k2,k3⟩:=I.back v hv e
   have:u'=u:=by omega
   subst this
   have hmu:u'∈l:=by cases hcc<;>exact List.mem_cons_self
   have hw:=ih (by omega) (fun x hx=>h1 x (List.mem_cons_of_mem _ hx)) (fun x y hx hy=>h2 x y (List.mem_cons_of_mem _ hx) (List.mem_cons_of_mem _ hy))
   have ha:=h2 u' v (List.mem_cons_of_mem _ hmu) List.mem_cons_self k2
   have ho:=h1 v List.mem_cons_self
   have hou:=h1 u' (List.mem_cons_of_mem _ hmu)
   refine(Way.step hw (K.sym v u' ho.1 hou.1 ha) ho.1).cast ?_
   rw[ho.2];exact k3.symm
end
theorem aKk {G:Net} {W:Int} {h:Nat→Int} {t:Nat} {b:Int} {A:AS} {p:List Nat} {c k e:Int} (r:ARun G W h t b A p c k e):A.cnt≤k:=by
 induction r with
 |none _=>exact Int.le_refl _
 |full _ _ _=>exact Int.le_refl _
 |found _ _ _=>omega
 |next _ _ _ _ ih=>rw[aKn]at ih;omega
structure aJ2 (G:Net) (D:Nat→Int) (s t:Nat) (p:List Nat) (c:Int):Prop where
 cost:c=D t
 fin:D t<aE
 way: ∀K:Net,(∀u,u∈p→K.op u=true∧K.cost u=G.cost u)→(∀u x,u∈p→x∈p→x∈G.adj u→x∈K.adj u)→Way K s t c
theorem aKl {G:Net} {W:Int} {h:Nat→Int} {t s:Nat} {b:Int} {A:AS} {D:Nat→Int} {p:List Nat} {c k e:Int} (r:ARun G W h t b A p c k e) (I:SInv G D s A (fun _ _=>False)) (F:IsFar G s D) (hn:G.n≤1000000) (hg:nL G h) (hadj: ∀v m,m∈G.adj v→G.op m=true) (ht:A.st t≠2):k≤G.n∧((e=0∧aJ2 G D s t p c)∨(e=22∧D t=aE∧p=[]∧c=0)∨(e=23∧p=[]∧c=0∧k=b∧b<G.n)):=by
 induction r with
 |none h0=>
  have hf:=I.few
  refine⟨hf.2, .inr (.inl ⟨rfl,?_,rfl,rfl⟩)⟩
  by_cases hD:D t<aE
  ·exact absurd (aIq I F h0 hD) ht
  ·have:=F.le t;omega
 |full v hv hc=>
  have:=I.opens hv
  exact⟨by omega, .inr (.inr ⟨rfl,rfl,rfl,hc,by omega⟩)⟩
 |found hB hb hc=>
  rename_i A l
  have h1:=pI I F hn hg hB
  have h2:=I.opens hB.1
  refine⟨by omega, .inl ⟨rfl,h1.1,by omega,fun K k1 k2=> ?_⟩⟩
  exact aEf I hc (by have:=hB.1;omega) (fun u hu=>k1 u (List.mem_reverse.2 hu)) (fun u x hu hx=>k2 u x (List.mem_reverse.2 hu) (List.mem_reverse.2 hx))
 |next hB hb hv r ih=>
  rename_i A v p c k e
  refine ih (aGi I F hn hg hadj hB) fun h2=> ?_
  rcases (zQ G A v t).2.1 h2 with k|k
  ·exact hv k.symm
  ·exact ht k
end Go.Proofs.YtaellcgglldjaaaGreat

namespace Go.Proofs.YtaellcgglldjaaaGreat

structure LGr where
 n:Nat
 op:Nat→Bool
 legs:Nat→List (Nat×Int)
 lt: ∀v,op v=true→v<n
 leg: ∀v,op v=true→ ∀q∈legs v,op q.1=true∧0<q.2∧q.2≤10000000
def rl (c:Nat) (A:AS) (q:Nat×Int):AS:=if A.takes q.1 (A.g c+q.2) then A.put q.1 (A.g c+q.2) c else A
def rls (c:Nat) (A:AS) (L:List (Nat×Int)):AS:=L.foldl (rl c) A
def eP (G:LGr) (A:AS) (v:Nat):AS:=rls v (A.settle v) (G.legs v)
inductive LRun (G:LGr) (W:Int) (t:Nat) (b:Int) (P:List Nat→List aB):AS→List aB→Int→Int→Int→Prop where
 |none {A:AS}:(∀v,A.st v≠1)→LRun G W t b P A [] 0 A.cnt 22
 |full {A:AS} (v:Nat):A.st v=1→A.cnt=b→LRun G W t b P A [] 0 A.cnt 23
 |found {A:AS} {l:List Nat}:dA W (fun _=>0) A t→A.cnt≠b→Chain A.came t l→LRun G W t b P A (P l) (A.g t) (A.cnt+1) 0
 |next {A:AS} {v:Nat} {p:List aB} {c n e:Int}:dA W (fun _=>0) A v→A.cnt≠b→v≠t→LRun G W t b P (eP G A v) p c n e→LRun G W t b P A p c n e
theorem LRun.one {G:LGr} {W:Int} (hW:1≤W) {t:Nat} {b:Int} {P:List Nat→List aB} {A:AS} {p p':List aB} {c c' n n' e e':Int} (r:LRun G W t b P A p c n e):LRun G W t b P A p' c' n' e'→p=p'∧c=c'∧n=n'∧e=e':=by
 induction r generalizing p' c' n' e' with
 |none h0=>
  intro k
  cases k with
  |none _=>exact⟨rfl,rfl,rfl,rfl⟩
  |full v hv _=>exact absurd hv (h0 v)
  |found hb _ _=>exact absurd hb.1 (h0 _)
  |next hb _ _ _=>exact absurd hb.1 (h0 _)
 |full v hv hc=>
  intro k
  cases k with
  |none h0=>exact absurd hv (h0 v)
  |full _ _ _=>exact⟨rfl,rfl,rfl,rfl⟩
  |found _ hn _=>exact absurd hc hn
  |next _ hn _ _=>exact absurd hc hn
 |found hb hn hc=>
  intro k
  cases k with
  |none h0=>exact absurd hb.1 (h0 _)
  |full _ _ h1=>exact absurd h1 hn
  |found _ _ hc'=>rw[hc.one hc'];exact⟨rfl,rfl,rfl,rfl⟩
  |next hb' _ hne _=>exact absurd (iU hW hb' hb) hne
 |next hb hn hne _ ih=>
  intro k
  cases k with
  |none h0=>exact absurd hb.1 (h0 _)
  |full _ _ h1=>exact absurd h1 hn
  |found hb' _ _=>exact absurd (iU hW hb hb') hne
  |next hb' _ _ r'=>
   have:=iU hW hb hb'
   subst this
   exact ih r'
theorem aJ8 (c:Nat) (A:AS) (q:Nat×Int) (u:Nat):(rl c A q).st u=A.st u∨(u=q.1∧(rl c A q).st u=1∧A.st u≠2):=by
 unfold rl
 split
 ·next h=>
  by_cases e:u=q.1
  ·subst e;right;exact⟨rfl,bH _ _ _,by rcases h with h|h<;>omega⟩
  ·left;exact gC _ _ e
 ·left;rfl
theorem aM1 (c:Nat) (A:AS) (q:Nat×Int):(rl c A q).cnt=A.cnt:=by
 unfold rl;split<;>rfl
theorem sU (c:Nat) (A:AS) (q:Nat×Int) (u:Nat) (h:A.st u=2):(rl c A q).st u=2∧(rl c A q).g u=A.g u∧(rl c A q).came u=A.came u:=by
 unfold rl
 split
 ·next k=>
  have hne:u≠q.1:=fun e=>by subst e;rcases k with k|k<;>omega
  exact⟨(gC _ _ hne).trans h,gB _ _ hne,gB _ _ hne⟩
 ·exact⟨h,rfl,rfl⟩
theorem aG8 (c:Nat): ∀(L:List (Nat×Int)) (A:AS) (u:Nat),(rls c A L).st u=A.st u∨((∃x,(u,x)∈L)∧(rls c A L).st u=1∧A.st u≠2)
 |[],_,_=> .inl rfl
 |q::L,A,u=>by
  show(rls c (rl c A q) L).st u=_∨_∧(rls c (rl c A q) L).st u=1∧_
  rcases aG8 c L (rl c A q) u with h|⟨⟨x,h1⟩,h2,h3⟩
  ·rcases aJ8 c A q u with k|⟨k1,k2,k3⟩
   ·exact .inl (h.trans k)
   ·exact .inr ⟨⟨q.2,by rw[k1];exact List.mem_cons_self⟩,h.trans k2,k3⟩
  ·refine .inr ⟨⟨x,List.mem_cons_of_mem _ h1⟩,h2,fun e=> ?_⟩
   exact h3 (sU c A q u e).1
theorem aJ9 (c:Nat): ∀(L:List (Nat×Int)) (A:AS),(rls c A L).cnt=A.cnt
 |[],_=>rfl
 |q::L,A=>(aJ9 c L (rl c A q)).trans (aM1 c A q)
theorem sV (c:Nat): ∀(L:List (Nat×Int)) (A:AS) (u:Nat),A.st u=2→(rls c A L).st u=2∧(rls c A L).g u=A.g u∧(rls c A L).came u=A.came u
 |[],_,_,h=>⟨h,rfl,rfl⟩
 |q::L,A,u,h=>by
  obtain⟨h1,h2,h3⟩:=sU c A q u h
  obtain⟨k1,k2,k3⟩:=sV c L (rl c A q) u h1
  exact⟨k1,k2.trans h2,k3.trans h3⟩
theorem rL (G:LGr) (A:AS) (v u:Nat):(u=v∧A.st v≠2→(eP G A v).st u=2)∧((eP G A v).st u=2→u=v∨A.st u=2)∧((eP G A v).st u=1→A.st u=1∨ ∃x,(u,x)∈G.legs v):=by
 have hst: ∀x,(A.settle v).st x=if x=v then 2 else A.st x:=fun x=>rfl
 have h:=aG8 v (G.legs v) (A.settle v) u
 rw[hst]at h
 refine⟨fun e=> ?_,fun e=> ?_,fun e=> ?_⟩
 ·rcases h with h|h
  ·exact h.trans (if_pos e.1)
  ·rw[if_pos e.1]at h;exact absurd rfl h.2.2
 ·rcases h with h|h
  ·by_cases k:u=v
   ·exact .inl k
   ·rw[if_neg k]at h;exact .inr (h.symm.trans e)
  ·have:=h.2.1
   have:(eP G A v).st u=1:=this
   omega
 ·rcases h with h|h
  ·by_cases k:u=v
   ·rw[if_pos k]at h;have:(eP G A v).st u=2:=h;omega
   ·rw[if_neg k]at h;exact .inl (h.symm.trans e)
  ·exact .inr h.1
theorem aC6 (G:LGr) (A:AS) (v:Nat):(eP G A v).cnt=A.cnt+1:=aJ9 v _ _
structure LInv (G:LGr) (s:Nat) (A:AS):Prop where
 two: ∀v,A.st v≤2
 op: ∀v,A.st v≠0→G.op v=true
 s0:A.st s≠0
 sg:A.g s=0
 sc:A.came s= -1
 bd: ∀v,A.st v≠0→0≤A.g v∧A.g v≤10000000*A.cnt
 bd2: ∀v,A.st v=2→A.g v+10000000≤10000000*A.cnt
 back: ∀v,A.st v≠0→v≠s→ ∃(u:Nat) (x:Int),A.came v=(u:Int)∧A.st u=2∧(v,x)∈G.legs u∧A.g v=A.g u+x
 cnt:((List.range G.n).countP (fun v=>decide (A.st v=2)):Int)=A.cnt
section
variable {G:LGr} {s:Nat} {A:AS}
theorem LInv.few (I:LInv G s A):0≤A.cnt∧A.cnt≤G.n:=by
 have h:=List.countP_le_length (p:=fun v=>decide (A.st v=2)) (l:=List.range G.n)
 rw[List.length_range]at h
 have:=I.cnt
 omega
theorem LInv.opens (I:LInv G s A) {v:Nat} (hv:A.st v=1):A.cnt<G.n:=by
 have hlt:=G.lt v (I.op v (by omega))
 have hc:=I.cnt
 have h1:(List.range G.n).countP (fun v=>decide (A.st v=2))<(List.range G.n).countP (fun _=>true):=by
  have hm: ∀l:List Nat,v∈l→l.countP (fun v=>decide (A.st v=2))<l.countP (fun _=>true):=by
   intro l
   induction l with
   |nil=>intro h;cases h
   |cons a l ih=>
    intro h
    rw[List.countP_cons,List.countP_cons]
    have hle:l.countP (fun v=>decide (A.st v=2))≤l.countP (fun _=>true):=List.countP_mono_left fun _ _ _=>rfl
    by_cases e:v=a
    ·subst e;simp[hv];simp at hle;omega
    ·have:=ih ((List.mem_cons.1 h).resolve_left e)
     split<;>simp at * <;>omega
  exact hm _ (List.mem_range.2 hlt)
 rw[List.countP_true,List.length_range]at h1
 omega
theorem sI (hs:G.op s=true):LInv G s (aV s) where
 two v:=by unfold aV bK;simp only;split<;>omega
 op v hv:=by
  unfold aV bK at hv
  simp only at hv
  split at hv
  ·next e=>rw[e];exact hs
  ·exact absurd rfl hv
 s0:=by simp[aV,bK]
 sg:=rfl
 sc:=by simp[aV,jG]
 bd v _:=⟨Int.le_refl _,Int.le_refl _⟩
 bd2 v hv:=by
  unfold aV bK at hv
  simp only at hv
  split at hv<;>omega
 back v hv hn:=by
  unfold aV bK at hv
  simp only at hv
  split at hv
  ·next e=>exact absurd e hn
  ·exact absurd rfl hv
 cnt:=by
  have:(List.range G.n).countP (fun v=>decide ((aV s).st v=2))=0:=by
   rw[List.countP_eq_zero]
   intro v _
   unfold aV bK
   simp only[decide_eq_true_eq]
   split<;>omega
  rw[this];rfl
theorem mO (I:LInv G s A) {v:Nat} (h1:A.st v=1):LInv G s (A.settle v):=by
 have hst: ∀u,(A.settle v).st u=if u=v then 2 else A.st u:=fun u=>rfl
 have hnz: ∀u,(A.settle v).st u≠0→A.st u≠0:=fun u hu=>by
  rw[hst]at hu
  split at hu
  ·next e=>subst e;omega
  ·exact hu
 have h2: ∀u,A.st u=2→(A.settle v).st u=2:=fun u hu=>by rw[hst];split<;>omega
 refine⟨fun u=> ?_,fun u hu=>I.op u (hnz u hu),?_,I.sg,I.sc,fun u hu=> ?_,fun u hu=> ?_,fun u hu hs=> ?_,?_⟩
 ·rw[hst];have:=I.two u;split<;>omega
 ·rw[hst];have:=I.s0;split<;>omega
 ·have:=I.bd u (hnz u hu)
  show 0≤A.g u∧A.g u≤10000000*(A.cnt+1)
  omega
 ·show A.g u+10000000≤10000000*(A.cnt+1)
  rw[hst]at hu
  split at hu
  ·next e=>subst e;have:=I.bd u (by omega);omega
  ·have:=I.bd2 u hu;omega
 ·obtain⟨w,x,w1,w2,w3,w4⟩:=I.back u (hnz u hu) hs
  exact⟨w,x,w1,h2 w w2,w3,w4⟩
 ·have hlt:=G.lt v (I.op v (by omega))
  have hc:=I.cnt
  have hcount: ∀l:List Nat,l.Nodup→l.countP (fun u=>decide ((A.settle v).st u=2))=l.countP (fun u=>decide (A.st u=2))+if v∈l then 1 else 0:=by
   intro l
   induction l with
   |nil=>intro _;rfl
   |cons a l ih=>
    intro hnd
    obtain⟨n1,n2⟩:=List.nodup_cons.1 hnd
    rw[List.countP_cons,List.countP_cons,ih n2,hst]
    by_cases e:a=v
    ·subst e
     rw[if_pos rfl,if_neg n1,h1]
     simp
    ·have e2: ¬v=a:=fun h=>e h.symm
     rw[if_neg e]
     by_cases hm:v∈l
     ·rw[if_pos hm,if_pos (List.mem_cons_of_mem a hm)];omega
     ·have hm2: ¬v∈a::l:=fun h=>(List.mem_cons.1 h).elim e2 hm
      rw[if_neg hm,if_neg hm2];omega
  rw[hcount _ List.nodup_range,if_pos (List.mem_range.2 hlt)]
  show _=A.cnt+1
  push_cast
  omega
theorem aK8 (I:LInv G s A) {c:Nat} {q:Nat×Int} (hc:A.st c=2) (hq:q∈G.legs c):LInv G s (rl c A q):=by
 obtain⟨m,x⟩:=q
 obtain⟨hm,hx0,hx1⟩:=G.leg c (I.op c (by omega)) _ hq
 simp only at hm hx0 hx1
 have hb2:=I.bd2 c hc
 have hbc:=I.bd c (by omega)
 unfold rl
 simp only
 split
 ·next ht=>
  have hnot2:A.st m≠2:=by rcases ht with h|h<;>omega
  have hnots:m≠s:=fun hs=>by
   subst hs
   have h0:=I.s0
   have h1:=I.sg
   rcases ht with h|h
   ·exact h0 h
   ·omega
  have hst: ∀u,(A.put m (A.g c+x) c).st u=if u=m then 1 else A.st u:=fun u=>rfl
  have hg: ∀u,(A.put m (A.g c+x) c).g u=if u=m then A.g c+x else A.g u:=fun u=>rfl
  have hcm: ∀u,(A.put m (A.g c+x) c).came u=if u=m then(c:Int) else A.came u:=fun u=>rfl
  have hcne:c≠m:=fun h=>hnot2 (h▸hc)
  have h2: ∀u,(A.put m (A.g c+x) c).st u=2→A.st u=2∧u≠m:=fun u hu=>by
   rw[hst]at hu
   split at hu
   ·omega
   ·exact⟨hu,by assumption⟩
  refine⟨fun u=> ?_,fun u hu=> ?_,?_,?_,?_,fun u hu=> ?_,fun u hu=> ?_,fun u hu hs=> ?_,?_⟩
  ·rw[hst];have:=I.two u;split<;>omega
  ·rw[hst]at hu
   split at hu
   ·next h=>rw[h];exact hm
   ·exact I.op u hu
  ·rw[hst,if_neg (fun h=>hnots h.symm)];exact I.s0
  ·rw[hg,if_neg (fun h=>hnots h.symm)];exact I.sg
  ·rw[hcm,if_neg (fun h=>hnots h.symm)];exact I.sc
  ·rw[hst]at hu
   rw[hg]
   show _∧_≤10000000*A.cnt
   split
   ·omega
   ·next h=>rw[if_neg h]at hu;exact I.bd u hu
  ·obtain⟨k1,k2⟩:=h2 u hu
   rw[hg,if_neg k2];exact I.bd2 u k1
  ·by_cases hum:u=m
   ·subst hum
    refine⟨c,x,by rw[hcm,if_pos rfl],by rw[hst,if_neg hcne];exact hc,hq,?_⟩
    rw[hg,if_pos rfl,hg,if_neg hcne]
   ·rw[hst,if_neg hum]at hu
    obtain⟨w,y,w1,w2,w3,w4⟩:=I.back u hu hs
    have hwm:w≠m:=fun h=>hnot2 (h▸w2)
    exact⟨w,y,by rw[hcm,if_neg hum];exact w1,by rw[hst,if_neg hwm];exact w2,w3,by rw[hg,if_neg hum,hg,if_neg hwm];exact w4⟩
  ·have:=I.cnt
   show _=A.cnt
   rw[←this]
   congr 1
   refine List.countP_congr fun u _=> ?_
   rw[hst]
   simp only[decide_eq_true_eq]
   split
   ·next h=>subst h;omega
   ·exact Iff.rfl
 ·exact I
theorem rG {c:Nat}: ∀(L:List (Nat×Int)) {A:AS},LInv G s A→A.st c=2→(∀q,q∈L→q∈G.legs c)→LInv G s (rls c A L)
 |[],_,I,_,_=>I
 |q::L,A,I,hc,hl=>rG L (aK8 I hc (hl q List.mem_cons_self)) (sU c A q c hc).1 (fun x hx=>hl x (List.mem_cons_of_mem _ hx))
theorem kC (I:LInv G s A) {v:Nat} (h1:A.st v=1):LInv G s (eP G A v):=
 rG _ (mO I h1) (bH _ _ _) (fun _ h=>h)
theorem vA (I:LInv G s A): ∀(k:Nat) (v:Nat),A.g v=(k:Int)→A.st v≠0→ ∃l,Chain A.came v l∧(∀u,u∈l→A.st u≠0∧A.g u≤A.g v)∧l.Nodup:=by
 intro k
 induction k using Nat.strongRecOn with
 |_ k ih=>
  intro v hv h0
  by_cases hs:v=s
  ·subst hs
   exact⟨[v], .stop (by rw[I.sc];decide),fun u hu=>by simp at hu;subst hu;exact⟨h0,Int.le_refl _⟩,by simp⟩
  ·obtain⟨u,x,u1,u2,u3,u4⟩:=I.back v h0 hs
   have hx:=(G.leg u (I.op u (by omega)) _ u3).2
   simp only at hx
   have hu:=I.bd u (by omega)
   obtain⟨l,l1,l2,l3⟩:=ih (A.g u).toNat (by omega) u (by omega) (by omega)
   refine⟨v::l, .go u1 l1,fun w hw=> ?_,List.nodup_cons.2 ⟨fun hm=> ?_,l3⟩⟩
   ·rcases List.mem_cons.1 hw with rfl|hw
    ·exact⟨h0,Int.le_refl _⟩
    ·have:=l2 w hw;exact⟨this.1,by omega⟩
   ·have:=(l2 v hm).2;omega
end
def eN (wR:Nat→Nat→List aB):List aB→List Nat→List aB
 |acc,[]=>acc
 |acc,[_]=>acc
 |acc,v::u::r=>eN wR (wR u v++acc) (u::r)
end Go.Proofs.YtaellcgglldjaaaGreat

namespace Go.Proofs.YtaellcgglldjaaaGreat

def kV (G:Net) (far:Nat→Int) (v:Nat):Option Nat:=(G.adj v).find? fun u=>decide (far u=far v-G.cost v)
inductive BackP (G:Net) (far:Nat→Int):Nat→List Nat→Prop where
 |done {v:Nat}:far v=0→BackP G far v [v]
 |step {v u:Nat} {l:List Nat}:0<far v→kV G far v=some u→BackP G far u l→BackP G far v (v::l)
section
variable {G:Net} {s:Nat} {far:Nat→Int}
theorem vE (F:IsFar G s far) {v:Nat} (hv:far v<aE) (h0:0<far v): ∃u,kV G far v=some u:=by
 have ho:=F.open_ hv
 have hs:v≠s:=fun e=>by subst e;have:=F.start ho;omega
 obtain⟨u,hu,_,he⟩:=F.from_ v ho hs hv
 cases h:kV G far v with
 |some u=>exact⟨u,rfl⟩
 |none=>
  unfold kV at h
  rw[List.find?_eq_none]at h
  have:=h u hu
  simp at this
  omega
theorem mB {v u:Nat} (h:kV G far v=some u):u∈G.adj v∧far u+G.cost v=far v:=by
 unfold kV at h
 have h1:=List.mem_of_find?_eq_some h
 have h2:=List.find?_some h
 simp at h2
 exact⟨h1,by omega⟩
theorem gV (F:IsFar G s far) {v u:Nat} (hv:far v<aE) (h:kV G far v=some u):far u<far v∧far u<aE∧G.op u=true:=by
 have h2:=(mB h).2
 have:=G.pos v (F.open_ hv)
 exact⟨by omega,by omega,F.open_ (by omega)⟩
theorem aBe (F:IsFar G s far): ∀(k:Nat) (v:Nat),far v=(k:Int)→far v<aE→ ∃l,BackP G far v l:=by
 intro k
 induction k using Nat.strongRecOn with
 |_ k ih=>
  intro v hv hf
  by_cases h0:far v=0
  ·exact⟨_, .done h0⟩
  ·have hn:=F.nn v
   obtain⟨u,hu⟩:=vE F hf (by omega)
   have hl:=gV F hf hu
   have hnu:=F.nn u
   obtain⟨l,hl2⟩:=ih (far u).toNat (by omega) u (by omega) hl.2.1
   exact⟨_, .step (by omega) hu hl2⟩
theorem BackP.head {v:Nat} {l:List Nat} (h:BackP G far v l): ∃r,l=v::r:=by cases h<;>exact⟨_,rfl⟩
theorem BackP.all (F:IsFar G s far) {v:Nat} {l:List Nat} (h:BackP G far v l):far v<aE→ ∀u,u∈l→far u≤far v∧far u<aE∧Way G u v (far v-far u):=by
 induction h with
 |done h0=>
  intro hv u hu
  simp only[List.mem_singleton]at hu
  subst hu
  exact⟨Int.le_refl _,hv,(Way.start (F.open_ hv)).cast (by omega)⟩
 | @step v u l h0 hn hb ih=>
  intro hv w hw
  rcases List.mem_cons.1 hw with rfl|hw
  ·exact⟨Int.le_refl _,hv,(Way.start (F.open_ hv)).cast (by omega)⟩
  ·have hl:=gV F hv hn
   have hs:=mB hn
   obtain⟨i1,i2,i3⟩:=ih hl.2.1 w hw
   exact⟨by omega,i2,(Way.step i3 hs.1 (F.open_ hv)).cast (by omega)⟩
theorem BackP.nodup (F:IsFar G s far) {v:Nat} {l:List Nat} (h:BackP G far v l):far v<aE→l.Nodup:=by
 induction h with
 |done _=>intro _;simp
 | @step v u l h0 hn hb ih=>
  intro hv
  have hl:=gV F hv hn
  refine List.nodup_cons.2 ⟨fun hm=> ?_,ih hl.2.1⟩
  have:=(hb.all F hl.2.1 v hm).1
  omega
theorem BackP.few (F:IsFar G s far) {v:Nat} {l:List Nat} (h:BackP G far v l) (hv:far v<aE):l.length≤G.n:=
 iY (h.nodup F hv) fun u hu=>G.lt u (F.open_ (h.all F hv u hu).2.1)
theorem BackP.last (F:IsFar G s far) {v:Nat} {l:List Nat} (h:BackP G far v l):far v<aE→l.getLast? =some s:=by
 induction h with
 | @done v h0=>
  intro hv
  have ho:=F.open_ hv
  by_cases e:v=s
  ·simp[e]
  ·obtain⟨u,_,_,he⟩:=F.from_ v ho e hv
   have:=G.pos v ho
   have:=F.nn u
   omega
 | @step v u l h0 hn hb ih=>
  intro hv
  obtain⟨r,hr⟩:=hb.head
  rw[hr]at ih⊢
  exact ih (gV F hv hn).2.1
theorem BackP.one {v:Nat} {l m:List Nat} (h:BackP G far v l):BackP G far v m→l=m:=by
 intro k
 induction h generalizing m with
 |done h0=>cases k with
  |done _=>rfl
  |step h1 _ _=>omega
 |step h0 hn hb ih=>cases k with
  |done h1=>omega
  |step h1 hn2 hb2=>
   rw[hn]at hn2
   cases hn2
   rw[ih hb2]
end
end Go.Proofs.YtaellcgglldjaaaGreat

namespace Go.Proofs.YtaellcgglldjaaaGreat

theorem uN {α:Type} {p q:α→Bool}: ∀{l:List α},(∀a∈l,p a=true→q a=true)→(∃a∈l,q a=true∧p a=false)→l.countP p<l.countP q
 |[],_,⟨a,h,_⟩=>by cases h
 |b::l,hpq,⟨a,ha,hq,hp⟩=>by
  rw[List.countP_cons,List.countP_cons]
  have hmono:l.countP p≤l.countP q:=List.countP_mono_left fun x hx=>hpq x (List.mem_cons_of_mem _ hx)
  by_cases hab:a=b
  ·subst hab
   rw[hq,hp];simp;omega
  ·have hal:a∈l:=by
    rcases List.mem_cons.1 ha with h|h
    ·exact absurd h hab
    ·exact h
   have:=uN (fun x hx=>hpq x (List.mem_cons_of_mem _ hx)) ⟨a,hal,hq,hp⟩
   have hb:=hpq b List.mem_cons_self
   cases h:p b
   ·split<;>split<;>simp_all<;>omega
   ·rw[hb h];simp;omega
theorem IsFar.low {G:Net} {s:Nat} {f:Nat→Int} (hf:IsFar G s f): ∀(k:Nat) (v:Nat),f v=(k:Int)→f v<aE→f v≤65535*(((List.range G.n).countP (fun u=>decide (f u<f v)):Nat):Int):=by
 intro k
 induction k using Nat.strongRecOn with
 |_ k ih=>
  intro v hv hk
  have ho:=hf.open_ hk
  by_cases hs:v=s
  ·subst hs
   rw[hf.start ho]
   omega
  ·obtain⟨u,hu,huo,he⟩:=hf.from_ v ho hs hk
   have hc:=G.pos v ho
   have ht:=G.top v ho
   have hn:=hf.nn u
   have h1:=ih (f u).toNat (by omega) u (by omega) (by omega)
   have h2:=uN (l:=List.range G.n) (p:=fun x=>decide (f x<f u)) (q:=fun x=>decide (f x<f v)) (fun x _ hx=>by simp at hx⊢;omega) ⟨u,List.mem_range.2 (G.lt u huo),by simp;omega,by simp⟩
   omega
theorem kY {G:Net} {s:Nat} {f:Nat→Int} (hf:IsFar G s f):fF G f:=fun v hv=>by
 have h1:=hf.low (f v).toNat v (by have:=hf.nn v;omega) hv
 have h2:=List.countP_le_length (p:=fun u=>decide (f u<f v)) (l:=List.range G.n)
 rw[List.length_range]at h2
 omega
theorem aKa {W H:Int} {l:List Int} {bx byy bw bh:Int} (L:LandP W H l bx byy bw bh) (L2:LandP W H l 0 0 W H):(aF L).Sub (aF L2):=by
 have hop: ∀x y,aY l W bx byy bw bh x y=true→aY l W 0 0 W H x y=true:=fun x y h=>by
  have h1:=cC h
  have h2:=L.in_ h1.1
  unfold aY
  rw[hasB_true.2 (by omega),decide_eq_true h1.2]
  rfl
 refine⟨fun v hv=> ?_,fun v _=>Int.le_refl _,fun u v _ _ hu=> ?_⟩
 ·have hv':opV (aY l W bx byy bw bh) W l.length v=true:=hv
  show opV _ _ _ v=true
  unfold opV at hv'⊢
  simp only[Bool.and_eq_true]at hv'⊢
  exact⟨hv'.1,hop _ _ hv'.2⟩
 ·obtain⟨p,hp,he⟩:=List.mem_map.1 hu
  obtain⟨k,hk,ho,e⟩:=mem_nbC.1 hp
  exact List.mem_map.2 ⟨p,mem_nbC.2 ⟨k,hk,hop _ _ ho,e⟩,he⟩
end Go.Proofs.YtaellcgglldjaaaGreat

