/- Part of a proof: HierS FloodQ NetP CellsF HierT. -/
import Derived.Test.YtaellcgglldjaaaGreatHierNodesQ24
import Derived.Test.YtaellcgglldjaaaGreatHierNodesQ10
import Derived.Test.YtaellcgglldjaaaGreatHierNodesQ16
import Derived.BigRegion
import Derived.Stop.RegionWithIn
import Derived.Shelf.Abstract
import Derived.Test.YtaellcgglldjaaaGreatHierNodesQ23
import Derived.Test.YtaellcgglldjaaaGreatHierNodesQ21
set_option linter.all false
set_option linter.unusedVariables false
set_option linter.unusedSimpArgs false
namespace Go.Proofs.YtaellcgglldjaaaGreat

structure LGr where
 n:Nat
 op:Nat→Bool
 legs:Nat→List (Nat×Int)
 lt: ∀v,op v=true→v<n
 leg: ∀v,op v=true→ ∀q∈legs v,op q.1=true∧0<q.2∧q.2≤10000000
def rl (c:Nat) (A:AS) (q:Nat×Int):AS:=if A.takes q.1 (A.g c+q.2) then A.put q.1 (A.g c+q.2) c else A
def rls (c:Nat) (A:AS) (L:List (Nat×Int)):AS:=L.foldl (rl c) A
def fE (G:LGr) (A:AS) (v:Nat):AS:=rls v (A.settle v) (G.legs v)
inductive LRun (G:LGr) (W:Int) (t:Nat) (b:Int) (P:List Nat→List aB):AS→List aB→Int→Int→Int→Prop where
 |none {A:AS}:(∀v,A.st v≠1)→LRun G W t b P A [] 0 A.cnt 22
 |full {A:AS} (v:Nat):A.st v=1→A.cnt=b→LRun G W t b P A [] 0 A.cnt 23
 |found {A:AS} {l:List Nat}:eP W (fun _=>0) A t→A.cnt≠b→Chain A.came t l→LRun G W t b P A (P l) (A.g t) (A.cnt+1) 0
 |next {A:AS} {v:Nat} {p:List aB} {c n e:Int}:eP W (fun _=>0) A v→A.cnt≠b→v≠t→LRun G W t b P (fE G A v) p c n e→LRun G W t b P A p c n e
theorem LRun.one {G:LGr} {W:Int} (hW:1≤W) {t:Nat} {b:Int} {P:List Nat→List aB} {A:AS} {p p':List aB} {c c' n n' e e':Int} (r:LRun G W t b P A p c n e):LRun G W t b P A p' c' n' e'→p=p'∧c=c'∧n=n'∧e=e':=by
 induction r generalizing p' c' n' e' with
 |none h0=>
  intro k
  cases k with
  |none _=>exact⟨rfl,rfl,rfl,rfl⟩
  |full v hv _=>exact absurd hv (h0 v)
  |found hb _ _=>exact absurd hb.1 (h0 _)
  |next hb _ _ _=>exact absurd hb.1 (h0 _)
 |full v hv hc=>
  intro k
  cases k with
  |none h0=>exact absurd hv (h0 v)
  |full _ _ _=>exact⟨rfl,rfl,rfl,rfl⟩
  |found _ hn _=>exact absurd hc hn
  |next _ hn _ _=>exact absurd hc hn
 |found hb hn hc=>
  intro k
  cases k with
  |none h0=>exact absurd hb.1 (h0 _)
  |full _ _ h1=>exact absurd h1 hn
  |found _ _ hc'=>rw[hc.one hc'];exact⟨rfl,rfl,rfl,rfl⟩
  |next hb' _ hne _=>exact absurd (jW hW hb' hb) hne
 |next hb hn hne _ ih=>
  intro k
  cases k with
  |none h0=>exact absurd hb.1 (h0 _)
  |full _ _ h1=>exact absurd h1 hn
  |found hb' _ _=>exact absurd (jW hW hb hb') hne
  |next hb' _ _ r'=>
   have:=jW hW hb hb'
   subst this
   exact ih r'
theorem aM9 (c:Nat) (A:AS) (q:Nat×Int) (u:Nat):(rl c A q).st u=A.st u∨(u=q.1∧(rl c A q).st u=1∧A.st u≠2):=by
 unfold rl
 split
 ·next h=>
  by_cases e:u=q.1
  ·subst e;right;exact⟨rfl,cD _ _ _,by rcases h with h|h<;>omega⟩
  ·left;exact iI _ _ e
 ·left;rfl
theorem aMe (c:Nat) (A:AS) (q:Nat×Int):(rl c A q).cnt=A.cnt:=by
 unfold rl;split<;>rfl
theorem xD (c:Nat) (A:AS) (q:Nat×Int) (u:Nat) (h:A.st u=2):(rl c A q).st u=2∧(rl c A q).g u=A.g u∧(rl c A q).came u=A.came u:=by
 unfold rl
 split
 ·next k=>
  have hne:u≠q.1:=fun e=>by subst e;rcases k with k|k<;>omega
  exact⟨(iI _ _ hne).trans h,iO _ _ hne,iO _ _ hne⟩
 ·exact⟨h,rfl,rfl⟩
theorem aHg (c:Nat): ∀(L:List (Nat×Int)) (A:AS) (u:Nat),(rls c A L).st u=A.st u∨((∃x,(u,x)∈L)∧(rls c A L).st u=1∧A.st u≠2)
 |[],_,_=> .inl rfl
 |q::L,A,u=>by
  show(rls c (rl c A q) L).st u=_∨_∧(rls c (rl c A q) L).st u=1∧_
  rcases aHg c L (rl c A q) u with h|⟨⟨x,h1⟩,h2,h3⟩
  ·rcases aM9 c A q u with k|⟨k1,k2,k3⟩
   ·exact .inl (h.trans k)
   ·exact .inr ⟨⟨q.2,by rw[k1];exact List.mem_cons_self⟩,h.trans k2,k3⟩
  ·refine .inr ⟨⟨x,List.mem_cons_of_mem _ h1⟩,h2,fun e=> ?_⟩
   exact h3 (xD c A q u e).1
theorem aJp (c:Nat): ∀(L:List (Nat×Int)) (A:AS),(rls c A L).cnt=A.cnt
 |[],_=>rfl
 |q::L,A=>(aJp c L (rl c A q)).trans (aMe c A q)
theorem aFg (c:Nat): ∀(L:List (Nat×Int)) (A:AS) (u:Nat),A.st u=2→(rls c A L).st u=2∧(rls c A L).g u=A.g u∧(rls c A L).came u=A.came u
 |[],_,_,h=>⟨h,rfl,rfl⟩
 |q::L,A,u,h=>by
  obtain⟨h1,h2,h3⟩:=xD c A q u h
  obtain⟨k1,k2,k3⟩:=aFg c L (rl c A q) u h1
  exact⟨k1,k2.trans h2,k3.trans h3⟩
theorem aJl (G:LGr) (A:AS) (v u:Nat):(u=v∧A.st v≠2→(fE G A v).st u=2)∧((fE G A v).st u=2→u=v∨A.st u=2)∧((fE G A v).st u=1→A.st u=1∨ ∃x,(u,x)∈G.legs v):=by
 have hst: ∀x,(A.settle v).st x=if x=v then 2 else A.st x:=fun x=>rfl
 have h:=aHg v (G.legs v) (A.settle v) u
 rw[hst]at h
 refine⟨fun e=> ?_,fun e=> ?_,fun e=> ?_⟩
 ·rcases h with h|h
  ·exact h.trans (if_pos e.1)
  ·rw[if_pos e.1]at h;exact absurd rfl h.2.2
 ·rcases h with h|h
  ·by_cases k:u=v
   ·exact .inl k
   ·rw[if_neg k]at h;exact .inr (h.symm.trans e)
  ·have:=h.2.1
   have:(fE G A v).st u=1:=this
   omega
 ·rcases h with h|h
  ·by_cases k:u=v
   ·rw[if_pos k]at h;have:(fE G A v).st u=2:=h;omega
   ·rw[if_neg k]at h;exact .inl (h.symm.trans e)
  ·exact .inr h.1
theorem aKc (G:LGr) (A:AS) (v:Nat):(fE G A v).cnt=A.cnt+1:=aJp v _ _
structure LInv (G:LGr) (s:Nat) (A:AS):Prop where
 two: ∀v,A.st v≤2
 op: ∀v,A.st v≠0→G.op v=true
 s0:A.st s≠0
 sg:A.g s=0
 sc:A.came s= -1
 bd: ∀v,A.st v≠0→0≤A.g v∧A.g v≤10000000*A.cnt
 bd2: ∀v,A.st v=2→A.g v+10000000≤10000000*A.cnt
 back: ∀v,A.st v≠0→v≠s→ ∃(u:Nat) (x:Int),A.came v=(u:Int)∧A.st u=2∧(v,x)∈G.legs u∧A.g v=A.g u+x
 cnt:((List.range G.n).countP (fun v=>decide (A.st v=2)):Int)=A.cnt
section
variable {G:LGr} {s:Nat} {A:AS}
theorem LInv.few (I:LInv G s A):0≤A.cnt∧A.cnt≤G.n:=by
 have h:=List.countP_le_length (p:=fun v=>decide (A.st v=2)) (l:=List.range G.n)
 rw[List.length_range]at h
 have:=I.cnt
 omega
theorem LInv.opens (I:LInv G s A) {v:Nat} (hv:A.st v=1):A.cnt<G.n:=by
 have hlt:=G.lt v (I.op v (by omega))
 have hc:=I.cnt
 have h1:(List.range G.n).countP (fun v=>decide (A.st v=2))<(List.range G.n).countP (fun _=>true):=by
  have hm: ∀l:List Nat,v∈l→l.countP (fun v=>decide (A.st v=2))<l.countP (fun _=>true):=by
   intro l
   induction l with
   |nil=>intro h;cases h
   |cons a l ih=>
    intro h
    rw[List.countP_cons,List.countP_cons]
    have hle:l.countP (fun v=>decide (A.st v=2))≤l.countP (fun _=>true):=List.countP_mono_left fun _ _ _=>rfl
    by_cases e:v=a
    ·subst e;simp[hv];simp at hle;omega
    ·have:=ih ((List.mem_cons.1 h).resolve_left e)
     split<;>simp at * <;>omega
  exact hm _ (List.mem_range.2 hlt)
 rw[List.countP_true,List.length_range]at h1
 omega
theorem aEc (hs:G.op s=true):LInv G s (bA s) where
 two v:=by unfold bA bX;simp only;split<;>omega
 op v hv:=by
  unfold bA bX at hv
  simp only at hv
  split at hv
  ·next e=>rw[e];exact hs
  ·exact absurd rfl hv
 s0:=by simp[bA,bX]
 sg:=rfl
 sc:=by simp[bA,jU]
 bd v _:=⟨Int.le_refl _,Int.le_refl _⟩
 bd2 v hv:=by
  unfold bA bX at hv
  simp only at hv
  split at hv<;>omega
 back v hv hn:=by
  unfold bA bX at hv
  simp only at hv
  split at hv
  ·next e=>exact absurd e hn
  ·exact absurd rfl hv
 cnt:=by
  have:(List.range G.n).countP (fun v=>decide ((bA s).st v=2))=0:=by
   rw[List.countP_eq_zero]
   intro v _
   unfold bA bX
   simp only[decide_eq_true_eq]
   split<;>omega
  rw[this];rfl
theorem qY (I:LInv G s A) {v:Nat} (h1:A.st v=1):LInv G s (A.settle v):=by
 have hst: ∀u,(A.settle v).st u=if u=v then 2 else A.st u:=fun u=>rfl
 have hnz: ∀u,(A.settle v).st u≠0→A.st u≠0:=fun u hu=>by
  rw[hst]at hu
  split at hu
  ·next e=>subst e;omega
  ·exact hu
 have h2: ∀u,A.st u=2→(A.settle v).st u=2:=fun u hu=>by rw[hst];split<;>omega
 refine⟨fun u=> ?_,fun u hu=>I.op u (hnz u hu),?_,I.sg,I.sc,fun u hu=> ?_,fun u hu=> ?_,fun u hu hs=> ?_,?_⟩
 ·rw[hst];have:=I.two u;split<;>omega
 ·rw[hst];have:=I.s0;split<;>omega
 ·have:=I.bd u (hnz u hu)
  show 0≤A.g u∧A.g u≤10000000*(A.cnt+1)
  omega
 ·show A.g u+10000000≤10000000*(A.cnt+1)
  rw[hst]at hu
  split at hu
  ·next e=>subst e;have:=I.bd u (by omega);omega
  ·have:=I.bd2 u hu;omega
 ·obtain⟨w,x,w1,w2,w3,w4⟩:=I.back u (hnz u hu) hs
  exact⟨w,x,w1,h2 w w2,w3,w4⟩
 ·have hlt:=G.lt v (I.op v (by omega))
  have hc:=I.cnt
  have hcount: ∀l:List Nat,l.Nodup→l.countP (fun u=>decide ((A.settle v).st u=2))=l.countP (fun u=>decide (A.st u=2))+if v∈l then 1 else 0:=by
   intro l
   induction l with
   |nil=>intro _;rfl
   |cons a l ih=>
    intro hnd
    obtain⟨n1,n2⟩:=List.nodup_cons.1 hnd
    rw[List.countP_cons,List.countP_cons,ih n2,hst]
    by_cases e:a=v
    ·subst e
     rw[if_pos rfl,if_neg n1,h1]
     simp
    ·have e2: ¬v=a:=fun h=>e h.symm
     rw[if_neg e]
     by_cases hm:v∈l
     ·rw[if_pos hm,if_pos (List.mem_cons_of_mem a hm)];omega
     ·have hm2: ¬v∈a::l:=fun h=>(List.mem_cons.1 h).elim e2 hm
      rw[if_neg hm,if_neg hm2];omega
  rw[hcount _ List.nodup_range,if_pos (List.mem_range.2 hlt)]
  show _=A.cnt+1
  push_cast
  omega
theorem aKd (I:LInv G s A) {c:Nat} {q:Nat×Int} (hc:A.st c=2) (hq:q∈G.legs c):LInv G s (rl c A q):=by
 obtain⟨m,x⟩:=q
 obtain⟨hm,hx0,hx1⟩:=G.leg c (I.op c (by omega)) _ hq
 simp only at hm hx0 hx1
 have hb2:=I.bd2 c hc
 have hbc:=I.bd c (by omega)
 unfold rl
 simp only
 split
 ·next ht=>
  have hnot2:A.st m≠2:=by rcases ht with h|h<;>omega
  have hnots:m≠s:=fun hs=>by
   subst hs
   have h0:=I.s0
   have h1:=I.sg
   rcases ht with h|h
   ·exact h0 h
   ·omega
  have hst: ∀u,(A.put m (A.g c+x) c).st u=if u=m then 1 else A.st u:=fun u=>rfl
  have hg: ∀u,(A.put m (A.g c+x) c).g u=if u=m then A.g c+x else A.g u:=fun u=>rfl
  have hcm: ∀u,(A.put m (A.g c+x) c).came u=if u=m then(c:Int) else A.came u:=fun u=>rfl
  have hcne:c≠m:=fun h=>hnot2 (h▸hc)
  have h2: ∀u,(A.put m (A.g c+x) c).st u=2→A.st u=2∧u≠m:=fun u hu=>by
   rw[hst]at hu
   split at hu
   ·omega
   ·exact⟨hu,by assumption⟩
  refine⟨fun u=> ?_,fun u hu=> ?_,?_,?_,?_,fun u hu=> ?_,fun u hu=> ?_,fun u hu hs=> ?_,?_⟩
  ·rw[hst];have:=I.two u;split<;>omega
  ·rw[hst]at hu
   split at hu
   ·next h=>rw[h];exact hm
   ·exact I.op u hu
  ·rw[hst,if_neg (fun h=>hnots h.symm)];exact I.s0
  ·rw[hg,if_neg (fun h=>hnots h.symm)];exact I.sg
  ·rw[hcm,if_neg (fun h=>hnots h.symm)];exact I.sc
  ·rw[hst]at hu
   rw[hg]
   show _∧_≤10000000*A.cnt
   split
   ·omega
   ·next h=>rw[if_neg h]at hu;exact I.bd u hu
  ·obtain⟨k1,k2⟩:=h2 u hu
   rw[hg,if_neg k2];exact I.bd2 u k1
  ·by_cases hum:u=m
   ·subst hum
    refine⟨c,x,by rw[hcm,if_pos rfl],by rw[hst,if_neg hcne];exact hc,hq,?_⟩
    rw[hg,if_pos rfl,hg,if_neg hcne]
   ·rw[hst,if_neg hum]at hu
    obtain⟨w,y,w1,w2,w3,w4⟩:=I.back u hu hs
    have hwm:w≠m:=fun h=>hnot2 (h▸w2)
    exact⟨w,y,by rw[hcm,if_neg hum];exact w1,by rw[hst,if_neg hwm];exact w2,w3,by rw[hg,if_neg hum,hg,if_neg hwm];exact w4⟩
  ·have:=I.cnt
   show _=A.cnt
   rw[←this]
   congr 1
   refine List.countP_congr fun u _=> ?_
   rw[hst]
   simp only[decide_eq_true_eq]
   split
   ·next h=>subst h;omega
   ·exact Iff.rfl
 ·exact I
theorem rV {c:Nat}: ∀(L:List (Nat×Int)) {A:AS},LInv G s A→A.st c=2→(∀q,q∈L→q∈G.legs c)→LInv G s (rls c A L)
 |[],_,I,_,_=>I
 |q::L,A,I,hc,hl=>rV L (aKd I hc (hl q List.mem_cons_self)) (xD c A q c hc).1 (fun x hx=>hl x (List.mem_cons_of_mem _ hx))
theorem aGd (I:LInv G s A) {v:Nat} (h1:A.st v=1):LInv G s (fE G A v):=
 rV _ (qY I h1) (cD _ _ _) (fun _ h=>h)
theorem aGg (I:LInv G s A): ∀(k:Nat) (v:Nat),A.g v=(k:Int)→A.st v≠0→ ∃l,Chain A.came v l∧(∀u,u∈l→A.st u≠0∧A.g u≤A.g v)∧l.Nodup:=by
 intro k
 induction k using Nat.strongRecOn with
 |_ k ih=>
  intro v hv h0
  by_cases hs:v=s
  ·subst hs
   exact⟨[v], .stop (by rw[I.sc];decide),fun u hu=>by simp at hu;subst hu;exact⟨h0,Int.le_refl _⟩,by simp⟩
  ·obtain⟨u,x,u1,u2,u3,u4⟩:=I.back v h0 hs
   have hx:=(G.leg u (I.op u (by omega)) _ u3).2
   simp only at hx
   have hu:=I.bd u (by omega)
   obtain⟨l,l1,l2,l3⟩:=ih (A.g u).toNat (by omega) u (by omega) (by omega)
   refine⟨v::l, .go u1 l1,fun w hw=> ?_,List.nodup_cons.2 ⟨fun hm=> ?_,l3⟩⟩
   ·rcases List.mem_cons.1 hw with rfl|hw
    ·exact⟨h0,Int.le_refl _⟩
    ·have:=l2 w hw;exact⟨this.1,by omega⟩
   ·have:=(l2 v hm).2;omega
end
def mF (wR:Nat→Nat→List aB):List aB→List Nat→List aB
 |acc,[]=>acc
 |acc,[_]=>acc
 |acc,v::u::r=>mF wR (wR u v++acc) (u::r)
end Go.Proofs.YtaellcgglldjaaaGreat

namespace Go.Proofs.YtaellcgglldjaaaGreat

def lK (G:Net) (far:Nat→Int) (v:Nat):Option Nat:=(G.adj v).find? fun u=>decide (far u=far v-G.cost v)
inductive BackP (G:Net) (far:Nat→Int):Nat→List Nat→Prop where
 |done {v:Nat}:far v=0→BackP G far v [v]
 |step {v u:Nat} {l:List Nat}:0<far v→lK G far v=some u→BackP G far u l→BackP G far v (v::l)
section
variable {G:Net} {s:Nat} {far:Nat→Int}
theorem vH (F:IsFar G s far) {v:Nat} (hv:far v<aL) (h0:0<far v): ∃u,lK G far v=some u:=by
 have ho:=F.open_ hv
 have hs:v≠s:=fun e=>by subst e;have:=F.start ho;omega
 obtain⟨u,hu,_,he⟩:=F.from_ v ho hs hv
 cases h:lK G far v with
 |some u=>exact⟨u,rfl⟩
 |none=>
  unfold lK at h
  rw[List.find?_eq_none]at h
  have:=h u hu
  simp at this
  omega
theorem pI {v u:Nat} (h:lK G far v=some u):u∈G.adj v∧far u+G.cost v=far v:=by
 unfold lK at h
 have h1:=List.mem_of_find?_eq_some h
 have h2:=List.find?_some h
 simp at h2
 exact⟨h1,by omega⟩
theorem kI (F:IsFar G s far) {v u:Nat} (hv:far v<aL) (h:lK G far v=some u):far u<far v∧far u<aL∧G.op u=true:=by
 have h2:=(pI h).2
 have:=G.pos v (F.open_ hv)
 exact⟨by omega,by omega,F.open_ (by omega)⟩
theorem aL4 (F:IsFar G s far): ∀(k:Nat) (v:Nat),far v=(k:Int)→far v<aL→ ∃l,BackP G far v l:=by
 intro k
 induction k using Nat.strongRecOn with
 |_ k ih=>
  intro v hv hf
  by_cases h0:far v=0
  ·exact⟨_, .done h0⟩
  ·have hn:=F.nn v
   obtain⟨u,hu⟩:=vH F hf (by omega)
   have hl:=kI F hf hu
   have hnu:=F.nn u
   obtain⟨l,hl2⟩:=ih (far u).toNat (by omega) u (by omega) hl.2.1
   exact⟨_, .step (by omega) hu hl2⟩
theorem BackP.head {v:Nat} {l:List Nat} (h:BackP G far v l): ∃r,l=v::r:=by cases h<;>exact⟨_,rfl⟩
theorem BackP.all (F:IsFar G s far) {v:Nat} {l:List Nat} (h:BackP G far v l):far v<aL→ ∀u,u∈l→far u≤far v∧far u<aL∧Way G u v (far v-far u):=by
 induction h with
 |done h0=>
  intro hv u hu
  simp only[List.mem_singleton]at hu
  subst hu
  exact⟨Int.le_refl _,hv,(Way.start (F.open_ hv)).cast (by omega)⟩
 | @step v u l h0 hn hb ih=>
  intro hv w hw
  rcases List.mem_cons.1 hw with rfl|hw
  ·exact⟨Int.le_refl _,hv,(Way.start (F.open_ hv)).cast (by omega)⟩
  ·have hl:=kI F hv hn
   have hs:=pI hn
   obtain⟨i1,i2,i3⟩:=ih hl.2.1 w hw
   exact⟨by omega,i2,(Way.step i3 hs.1 (F.open_ hv)).cast (by omega)⟩
theorem BackP.nodup (F:IsFar G s far) {v:Nat} {l:List Nat} (h:BackP G far v l):far v<aL→l.Nodup:=by
 induction h with
 |done _=>intro _;simp
 | @step v u l h0 hn hb ih=>
  intro hv
  have hl:=kI F hv hn
  refine List.nodup_cons.2 ⟨fun hm=> ?_,ih hl.2.1⟩
  have:=(hb.all F hl.2.1 v hm).1
  omega
theorem BackP.few (F:IsFar G s far) {v:Nat} {l:List Nat} (h:BackP G far v l) (hv:far v<aL):l.length≤G.n:=
 iA (h.nodup F hv) fun u hu=>G.lt u (F.open_ (h.all F hv u hu).2.1)
theorem BackP.last (F:IsFar G s far) {v:Nat} {l:List Nat} (h:BackP G far v l):far v<aL→l.getLast? =some s:=by
 induction h with
 | @done v h0=>
  intro hv
  have ho:=F.open_ hv
  by_cases e:v=s
  ·simp[e]
  ·obtain⟨u,_,_,he⟩:=F.from_ v ho e hv
   have:=G.pos v ho
   have:=F.nn u
   omega
 | @step v u l h0 hn hb ih=>
  intro hv
  obtain⟨r,hr⟩:=hb.head
  rw[hr]at ih⊢
  exact ih (kI F hv hn).2.1
theorem BackP.one {v:Nat} {l m:List Nat} (h:BackP G far v l):BackP G far v m→l=m:=by
 intro k
 induction h generalizing m with
 |done h0=>cases k with
  |done _=>rfl
  |step h1 _ _=>omega
 |step h0 hn hb ih=>cases k with
  |done h1=>omega
  |step h1 hn2 hb2=>
   rw[hn]at hn2
   cases hn2
   rw[ih hb2]
end
end Go.Proofs.YtaellcgglldjaaaGreat

namespace Go.Proofs.YtaellcgglldjaaaGreat

theorem wG {α:Type} {p q:α→Bool}: ∀{l:List α},(∀a∈l,p a=true→q a=true)→(∃a∈l,q a=true∧p a=false)→l.countP p<l.countP q
 |[],_,⟨a,h,_⟩=>by cases h
 |b::l,hpq,⟨a,ha,hq,hp⟩=>by
  rw[List.countP_cons,List.countP_cons]
  have hmono:l.countP p≤l.countP q:=List.countP_mono_left fun x hx=>hpq x (List.mem_cons_of_mem _ hx)
  by_cases hab:a=b
  ·subst hab
   rw[hq,hp];simp;omega
  ·have hal:a∈l:=by
    rcases List.mem_cons.1 ha with h|h
    ·exact absurd h hab
    ·exact h
   have:=wG (fun x hx=>hpq x (List.mem_cons_of_mem _ hx)) ⟨a,hal,hq,hp⟩
   have hb:=hpq b List.mem_cons_self
   cases h:p b
   ·split<;>split<;>simp_all<;>omega
   ·rw[hb h];simp;omega
theorem IsFar.low {G:Net} {s:Nat} {f:Nat→Int} (hf:IsFar G s f): ∀(k:Nat) (v:Nat),f v=(k:Int)→f v<aL→f v≤65535*(((List.range G.n).countP (fun u=>decide (f u<f v)):Nat):Int):=by
 intro k
 induction k using Nat.strongRecOn with
 |_ k ih=>
  intro v hv hk
  have ho:=hf.open_ hk
  by_cases hs:v=s
  ·subst hs
   rw[hf.start ho]
   omega
  ·obtain⟨u,hu,huo,he⟩:=hf.from_ v ho hs hk
   have hc:=G.pos v ho
   have ht:=G.top v ho
   have hn:=hf.nn u
   have h1:=ih (f u).toNat (by omega) u (by omega) (by omega)
   have h2:=wG (l:=List.range G.n) (p:=fun x=>decide (f x<f u)) (q:=fun x=>decide (f x<f v)) (fun x _ hx=>by simp at hx⊢;omega) ⟨u,List.mem_range.2 (G.lt u huo),by simp;omega,by simp⟩
   omega
theorem aKl {G:Net} {s:Nat} {f:Nat→Int} (hf:IsFar G s f):gS G f:=fun v hv=>by
 have h1:=hf.low (f v).toNat v (by have:=hf.nn v;omega) hv
 have h2:=List.countP_le_length (p:=fun u=>decide (f u<f v)) (l:=List.range G.n)
 rw[List.length_range]at h2
 omega
end Go.Proofs.YtaellcgglldjaaaGreat

namespace Go.Proofs.YtaellcgglldjaaaGreat
open Go.RowKit
set_option maxHeartbeats 1000000 in
theorem qX {w:World} {sb:Nat} {m cap f:Nat} {caps:Array Value} {L:List aB} {p:aB→Bool} {base k0:Nat} (hL:L.length=m) (hm:m≤1000) (hv:Own cellE w base 28 (.slice (some ⟨sb,0,none⟩) m cap) L)
  (hp: ∀w',Ext w w'→ ∀q,q∈L→Calls Tryz.prog f (#[.agg #[.int .i64 q.1, .int .i64 q.2]]++caps) w' fun e w2=>e= .returned (.bool (p q))∧Ext w' w2)
  (eg: ∀args w,(callFunc f args).run Tryz.prog w= .ok (.enter f args) w)
  (hk:k0<m) (hyes: ∀q,L[k0]? =some q→p q=true) (hno: ∀j q,j<k0→L[j]? =some q→p q=false):
  Calls Tryz.prog 122 #[.slice (some ⟨sb,0,none⟩) m cap, .func (.func f) #[] caps] w fun e w'=>e= .returned (.int .i64 k0)∧Ext w w':=by
 have HV:=aA hv
 have HP:=aA hp
 have HY:=aA hyes
 have HNO:=aA hno
 have HL:=aA hL
 have zb:=(aG hv rfl).2
 clear hv hp hyes hno hL
 go_enter Tryz.func122,Tryz.ntmps122
 go_wp2
 go_loopw [8] (fun i wr=> ∃k:Nat,k≤k0∧i= .int .i64 k∧Ext w wr) (fun i _=>m-(intOf i).toNat)
 case atStart=>exact⟨0,Nat.zero_le _,rfl,Ext.refl _⟩
 case round=>
  obtain⟨k,hkk,rfl,hext⟩:=hrel
  have hz:=hext.size
  have hkm:k<m:=by omega
  obtain⟨q,hq⟩: ∃q,L[k]? =some q:=⟨_,List.getElem?_eq_getElem (by rw[HL.out];exact hkm)⟩
  obtain⟨d0,d1,_⟩:=dT (HV.out.ext hext) hq
  have hki:(k:Int)<(m:Int):=by omega
  have HQ:=aA (fun w' (hx:Ext wr w')=>HP.out w' (hext.trans hx) q (List.mem_of_getElem? hq))
  have zr:sb<wr.heap.size:=by omega
  by_cases hlt:k<k0
  ·have hf:=HNO.out k q hlt hq
   rw[hf]at HQ
   clear hq hf
   go_wp2_with fail
   refine(HQ.out _ (Ext.refl _)).mono ?_
   rintro e w2 ⟨rfl,hb2⟩
   go_wp2
   go_roundw
   case rel=>exact⟨k+1,by omega,by go_num,hext.trans hb2⟩
   case measure=>simp[intOf];omega
  ·obtain rfl:k=k0:=by omega
   have hf:=HY.out q hq
   rw[hf]at HQ
   clear hq hf
   go_wp2_with fail
   refine(HQ.out _ (Ext.refl _)).mono ?_
   rintro e w2 ⟨rfl,hb2⟩
   go_wp2
   go_ret
   exact⟨rfl,hext.trans hb2⟩
def tD (l L:List aB) (m:Nat):Prop:=L.length=l.length∧ ∀q,q<l.length→L[q]? =if q<m∨l.length-m≤q then l[l.length-1-q]? else l[q]?
theorem aG0 (l:List aB):tD l l 0:=⟨rfl,fun q hq=>by rw[if_neg (by omega)]⟩
theorem aKv {l L:List aB} {m:Nat} (h:tD l L m) (hm:l.length≤2*m+1):L=l.reverse:=by
 apply List.ext_getElem?
 intro q
 by_cases hq:q<l.length
 ·rw[h.2 q hq,List.getElem?_reverse hq]
  split
  ·rfl
  ·have:q=l.length-1-q:=by omega
   rw[←this]
 ·rw[List.getElem?_eq_none (by rw[h.1];omega),List.getElem?_eq_none (by simp;omega)]
theorem aJ9 {l L:List aB} {m:Nat} (h:tD l L m) (hm:2*m+1<l.length) {p q:aB} (hp:L[m]? =some p) (hq:L[l.length-1-m]? =some q):tD l ((L.set m q).set (l.length-1-m) p) (m+1):=by
 have e1:=h.2 m (by omega)
 have e2:=h.2 (l.length-1-m) (by omega)
 rw[if_neg (by omega),hp]at e1
 rw[if_neg (by omega),hq]at e2
 refine⟨by simp[h.1],fun k hk=> ?_⟩
 rw[List.getElem?_set,List.getElem?_set,List.length_set,h.1]
 by_cases a:l.length-1-m=k
 ·subst a
  rw[if_pos rfl,if_pos (by omega),if_pos (by omega),show l.length-1-(l.length-1-m)=m by omega,e1]
 ·rw[if_neg a]
  by_cases b:m=k
  ·subst b
   rw[if_pos rfl,if_pos (by omega),if_pos (by omega),e2]
  ·rw[if_neg b,h.2 k hk]
   by_cases d:k<m∨l.length-m≤k
   ·rw[if_pos d,if_pos (by omega)]
   ·rw[if_neg d,if_neg (by omega)]
set_option maxRecDepth 100000 in
set_option maxHeartbeats 2000000 in
theorem qH {w:World} {g c base n:Nat} {l:List aB} (hl:l.length=n) (h1:1≤n) (hn:n≤100000) (hv:Own cellE w base 28 (.slice (some ⟨g,0,none⟩) n c) l):
  Calls Tryz.prog 71 #[.slice (some ⟨g,0,none⟩) n c] w fun e w'=>e= .returned (.tuple #[])∧Own cellE w' base 28 (.slice (some ⟨g,0,none⟩) n c) l.reverse∧Touch (fun k=>k=g) w w':=by
 have HV:=aA hv
 have HL:=aA hl
 clear hv hl
 go_enter Tryz.func71,Tryz.ntmps71
 go_wp2
 go_loopw [2,3] (fun i j wr=> ∃(m:Nat) (L:List aB),2*m≤n∧i= .int .i64 m∧j= .int .i64 ((n:Int)-1-(m:Int))∧tD l L m∧Own cellE wr base 28 (.slice (some ⟨g,0,none⟩) n c) L∧Touch (fun k=>k=g) w wr) (fun i _ _=>n-(intOf i).toNat)
 case atStart=>exact⟨0,l,by omega,rfl,by go_num,aG0 l,HV.out,Touch.refl _ _⟩
 case round=>
  obtain⟨m,L,hmn,rfl,rfl,hrev,hown,ht⟩:=hrel
  have R:=aA hrev
  have O:=aA hown
  have T:=aA ht
  have hLn:L.length=n:=by rw[hrev.1,HL.out]
  have HLn:=aA hLn
  by_cases hlt:2*m+1<n
  ·obtain⟨j,hj⟩: ∃j,j=n-1-m:=⟨_,rfl⟩
   have hji:(n:Int)-1-(m:Int)=(j:Int):=by omega
   obtain⟨⟨px,py⟩,hp⟩: ∃p,L[m]? =some p:=⟨_,List.getElem?_eq_getElem (by omega)⟩
   obtain⟨⟨qx,qy⟩,hq⟩: ∃q,L[j]? =some q:=⟨_,List.getElem?_eq_getElem (by omega)⟩
   obtain⟨a0,a1,zg⟩:=dT hown hp
   obtain⟨b0,b1,_⟩:=dT hown hq
   have h':wr.ownsRow base 28 2 (.slice (some ⟨g,0,none⟩) n c) L.length (L.flatMap cellE.cells):=hown
   rw[hLn]at h'
   have f0:=h'.frozenAt (m*2)
   have f1:=h'.frozenAt (m*2+1)
   have f2:=h'.frozenAt (j*2)
   have f3:=h'.frozenAt (j*2+1)
   have hst:=aA (aJ9 (p:=(px,py)) (q:=(qx,qy)) hrev (by rw[HL.out];exact hlt) hp (by rw[HL.out,←hj];exact hq))
   obtain⟨w1,hw1⟩: ∃w1,w1=fY (fY wr g (m*2) (cellE.cells (qx,qy))) g (j*2) (cellE.cells (px,py)):=⟨_,rfl⟩
   have o1:Own cellE w1 base 28 (.slice (some ⟨g,0,none⟩) n c) ((L.set m (qx,qy)).set j (px,py)):=by
    rw[hw1]
    exact(hown.turn (i:=m) (by omega) (qx,qy)).turn (i:=j) (by rw[List.length_set];omega) (px,py)
   have t1:Touch (fun k=>k=g) wr w1:=by
    rw[hw1]
    exact(fB g _ _ _).trans (fB g _ _ _)
   have O1:=aA o1
   have T1:=aA (ht.trans t1)
   have HW1:=aA hw1
   have HJ:=aA hj
   have hne:m≠j:=by omega
   have m1:(m:Int)<(n:Int):=by omega
   have m2:(j:Int)<(n:Int):=by omega
   have m3:(m:Int)<(j:Int):=by omega
   have hjb:m+1≤j:=by omega
   rw[hji]
   have HLT:=aA hlt
   clear hrev hown ht hLn hp hq h' hw1 o1 t1 hj hji hmn hlt
   simp only at a0 a1 b0 b1
   go_wp2
   go_region
   rw[show(((wr.setCell ⟨g,m*2,none⟩ (.int .i64 qx)).setCell ⟨g,m*2+1,none⟩ (.int .i64 qy)).setCell ⟨g,j*2,none⟩ (.int .i64 px)).setCell ⟨g,j*2+1,none⟩ (.int .i64 py)=w1 from HW1.out.symm]
   clear a0 a1 b0 b1 f0 f1 f2 f3
   go_wp2
   go_roundw
   case rel=>exact⟨m+1,(L.set m (qx,qy)).set j (px,py),by(have:=HLT.out;omega),by go_num,by(have:=HJ.out;congr 1;push_cast;omega),by rw[HL.out,←HJ.out]at hst;exact hst.out,O1.out.drew,T1.out.drew⟩
   case measure=>simp[intOf];omega
  ·have hd:decide ((m:Int)<(n:Int)-1-(m:Int))=false:=by simp;omega
   have he:=aKv hrev (by rw[HL.out];omega)
   subst he
   clear hrev hown ht hlt hLn HLn R
   go_wp2
   go_end0
   exact⟨rfl,O.out,T.out⟩
def aN (W:Int) (v:Nat):aB:=(vx W v,vy W v)
theorem Row16.touch {S:Nat→Prop} {w w':World} {a:Option Addr} {l:List Int} (h:Row16 w a l) (e:Touch S w w') (hs: ∀b off,a=some ⟨b,off,none⟩→ ¬S b):Row16 w' a l:=fun h0=>by
 obtain⟨b,off,ha,hb,hc⟩:=h h0
 exact⟨b,off,ha,Nat.lt_of_lt_of_le hb e.size,fun k hk=>(e.cell (p:=⟨b,off+k,none⟩) hb (hs b off ha)).trans (hc k hk)⟩
end Go.Proofs.YtaellcgglldjaaaGreat

namespace Go.Proofs.YtaellcgglldjaaaGreat
open Go.RowKit
theorem cS {W H:Int} {c:aB} (h:inB W H c.1 c.2=true):aN W (aC W c)=c:=by
 have b:=inB_true.1 h
 obtain⟨x,y⟩:=c
 simp only at b
 unfold aN
 rw[dX (by omega) (by omega) (by omega),dZ (by omega) (by omega) (by omega)]
theorem uF {W H:Int} {a c:aB} (ha:inB W H a.1 a.2=true) (hc:inB W H c.1 c.2=true) (h:aC W a=aC W c):a=c:=by
 rw[←cS ha,←cS hc,h]
theorem rR {W H s:Int} {l:List Int} (g:Good W H s l) {v:Nat} (hv:v<l.length):inB W H (aN W v).1 (aN W v).2=true∧aC W (aN W v)=v:=by
 obtain⟨hm,hl⟩:=checkE_ok.1 g.ok
 have hb:=mayB_true.1 hm
 have hlt:(v:Int)<W*H:=by omega
 have:=aLq (H:=H) (W:=W) (by omega) hlt
 exact⟨inB_true.2 ⟨by omega,by omega,by omega,by omega,this.1,this.2.1,this.2.2.1,this.2.2.2⟩,gD (by omega) v⟩
theorem aC5 {W H s id:Int} {l:List Int} (L:eZ W H s id l):(aK L).n=l.length:=rfl
theorem aC1 {W H s:Int} {l:List Int} (g:Good W H s l) {a:aB} (ha:inB W H a.1 a.2=true): ∃L:eZ W H s (ofN W s a.1 a.2) l,∀c,cA W H s l a c=dF L a (aC W c):=by
 have L:=g.box (jB g.right ha)
 refine⟨L,fun c=> ?_⟩
 unfold cA
 rw[dif_pos L]
theorem aIf {W H s:Int} {l:List Int} (g:Good W H s l) (hl:l.length≤150) {a c:aB} (ha:inB W H a.1 a.2=true) (hc:inB W H c.1 c.2=true) (hne:c≠a) (hd:cA W H s l a c≠aL):0<cA W H s l a c∧cA W H s l a c≤10000000:=by
 obtain⟨L,hL⟩:=aC1 g ha
 rw[hL]at hd⊢
 have F:=jM L a
 have hlt:dF L a (aC W c)<aL:=by have:=F.le (aC W c);omega
 have ho:=F.open_ hlt
 have hs:aC W c≠aC W a:=fun e=>hne (uF hc ha e)
 obtain⟨u,_,_,he⟩:=F.from_ _ ho hs hlt
 have hn:=F.nn u
 have hp:=(aK L).pos _ ho
 have hlow:=aKl F _ hlt
 rw[aC5 L]at hlow
 exact⟨by omega,by omega⟩
def opH (W H:Int) (G:List (aB×aB)) (f t:aB) (n v:Nat):Bool:=decide (v<n)&&bT G f t (aN W v)
noncomputable def kC (W H s:Int) (l:List Int) (G:List (aB×aB)) (f t:aB) (v:Nat):List (Nat×Int):=(bR W H s l G f t (aN W v)).map fun q=>(aC W q.1,q.2)
theorem nB {W H s:Int} {l:List Int} (g:Good W H s l) {G:List (aB×aB)} {f t:aB} {v:Nat}:opH W H G f t l.length v=true↔ ∃c,c∈aX W H G f t∧aC W c=v:=by
 unfold opH
 have hb:=mayB_true.1 (checkE_ok.1 g.ok).1
 constructor
 ·intro h
  rw[Bool.and_eq_true,decide_eq_true_eq]at h
  obtain⟨h1,h2⟩:=rR g h.1
  have:=inB_true.1 h1
  refine⟨aN W v,?_,h2⟩
  unfold aX
  rw[List.mem_filter,iZ]
  exact⟨by omega,h.2⟩
 ·rintro⟨c,hc,rfl⟩
  unfold aX at hc
  rw[List.mem_filter,iZ]at hc
  have hi:inB W H c.1 c.2=true:=inB_true.2 (by omega)
  rw[cS hi,hc.2,Bool.and_true,decide_eq_true_eq]
  exact jN (checkE_ok.1 g.ok).2 hi
theorem eL {W H s:Int} {l:List Int} (g:Good W H s l) {G:List (aB×aB)} {f t c:aB} (h:c∈aX W H G f t):inB W H c.1 c.2=true:=by
 have hb:=mayB_true.1 (checkE_ok.1 g.ok).1
 have:=nodesL_mem.1 h
 exact inB_true.2 (by omega)
theorem uW {W H s:Int} {l:List Int} (g:Good W H s l) {f t c:aB} (h:gIn (aD W H s l) c=true):c∈aX W H (aD W H s l) f t:=by
 have hi:=aC9 g.right (gIn_flat.1 h)
 have:=inB_true.1 hi
 exact nodesL_mem.2 ⟨by omega, .inr (.inr h)⟩
theorem leg_mem {W H s:Int} {l:List Int} {G:List (aB×aB)} {f t a:aB} {q:aB×Int}:q∈bR W H s l G f t a↔
  (q.1∈aX W H G f t∧ofN W s q.1.1 q.1.2=ofN W s a.1 a.2∧q.1≠a∧cA W H s l a q.1≠aL∧q.2=cA W H s l a q.1)∨(∃g∈G,q∈fX W l a g):=by
 unfold bR bG bC
 rw[List.mem_append,List.mem_map,List.mem_flatMap]
 refine or_congr ⟨?_,?_⟩ Iff.rfl
 ·rintro⟨c,hc,rfl⟩
  rw[List.mem_filter]at hc
  simp only[Bool.and_eq_true,decide_eq_true_eq,Bool.not_eq_true',decide_eq_false_iff_not]at hc
  exact⟨hc.1,hc.2.1,hc.2.2.1,hc.2.2.2,rfl⟩
 ·rintro⟨h1,h2,h3,h4,h5⟩
  refine⟨q.1,?_,by rw[←h5]⟩
  rw[List.mem_filter]
  simp only[Bool.and_eq_true,decide_eq_true_eq,Bool.not_eq_true',decide_eq_false_iff_not]
  exact⟨h1,h2,h3,h4⟩
theorem aHj {W:Int} {l:List Int} {a:aB} {g:aB×aB} {q:aB×Int} (h:q∈fX W l a g):(g.1=a∧q=(g.2,aO l W g.2))∨(g.2=a∧q=(g.1,aO l W g.1)):=by
 unfold fX at h
 split at h
 ·next e=>simp only[List.mem_singleton]at h;exact .inl ⟨e,h⟩
 ·split at h
  ·next e=>simp only[List.mem_singleton]at h;exact .inr ⟨e,h⟩
  ·cases h
theorem tP {W H s:Int} {l:List Int} (g:Good W H s l) (hl:l.length≤150) {f t a:aB} (ha:inB W H a.1 a.2=true) {q:aB×Int} (h:q∈bR W H s l (aD W H s l) f t a):
  q.1∈aX W H (aD W H s l) f t∧q.1≠a∧0<q.2∧q.2≤10000000∧((ofN W s q.1.1 q.1.2=ofN W s a.1 a.2∧q.2=cA W H s l a q.1∧cA W H s l a q.1≠aL)∨(ofN W s q.1.1 q.1.2≠ofN W s a.1 a.2∧q.2=aO l W q.1)):=by
 rcases leg_mem.1 h with⟨h1,h2,h3,h4,h5⟩|⟨e,he,hq⟩
 ·have hd:=aIf g hl ha (eL g h1) h3 h4
  exact⟨h1,h3,by omega,by omega, .inl ⟨h2,h5,h4⟩⟩
 ·obtain⟨x,y,x0,xy,yb,_,i1,i2,o1,o2,hop,_⟩:=nO g.right he
  unfold lJ at hop
  rw[Bool.and_eq_true,decide_eq_true_eq,decide_eq_true_eq]at hop
  have b1:=cC g.u16 W e.1
  have b2:=cC g.u16 W e.2
  rcases aHj hq with⟨rfl,rfl⟩|⟨rfl,rfl⟩
  ·refine⟨uW g (gIn_iff.2 ⟨e,he, .inr rfl⟩),fun k=> ?_,by simp only;omega,by simp only;omega, .inr ⟨by simp only;omega,rfl⟩⟩
   simp only at k
   rw[k]at o2
   omega
  ·refine⟨uW g (gIn_iff.2 ⟨e,he, .inl rfl⟩),fun k=> ?_,by simp only;omega,by simp only;omega, .inr ⟨by simp only;omega,rfl⟩⟩
   simp only at k
   rw[k]at o1
   omega
noncomputable def hGr {W H s:Int} {l:List Int} (g:Good W H s l) (hl:l.length≤150) (f t:aB):LGr where
 n:=l.length
 op:=opH W H (aD W H s l) f t l.length
 legs:=kC W H s l (aD W H s l) f t
 lt v h:=by
  unfold opH at h
  rw[Bool.and_eq_true,decide_eq_true_eq]at h
  exact h.1
 leg v h q hq:=by
  obtain⟨c,hc,rfl⟩:=(nB g).1 h
  have hi:=eL g hc
  unfold kC at hq
  rw[cS hi]at hq
  obtain⟨p,hp,rfl⟩:=List.mem_map.1 hq
  obtain⟨h1,h2,h3,h4,_⟩:=tP g hl hi hp
  exact⟨(nB g).2 ⟨p.1,h1,rfl⟩,h3,h4⟩
open Classical in
noncomputable def eJ (W H s:Int) (l:List Int) (u v:aB):List aB:=
 if ofN W s v.1 v.2=ofN W s u.1 u.2 then(if h: ∃(L:eZ W H s (ofN W s u.1 u.2) l) (p:List Nat),BackP (aK L) (dF L u) (aC W v) p then((Classical.choose (Classical.choose_spec h)).reverse.map (aN W)).drop 1 else[]) else[v]
theorem vA {W H s:Int} {l:List Int} {u v:aB} (h:ofN W s v.1 v.2≠ofN W s u.1 u.2):eJ W H s l u v=[v]:=by
 unfold eJ;rw[if_neg h]
theorem aBz {W H s:Int} {l:List Int} {u v:aB} (h:ofN W s v.1 v.2=ofN W s u.1 u.2) (L:eZ W H s (ofN W s u.1 u.2) l) {p:List Nat} (hp:BackP (aK L) (dF L u) (aC W v) p):eJ W H s l u v=(p.reverse.map (aN W)).drop 1:=by
 unfold eJ
 have hx: ∃(L:eZ W H s (ofN W s u.1 u.2) l) (p:List Nat),BackP (aK L) (dF L u) (aC W v) p:=⟨L,p,hp⟩
 rw[if_pos h,dif_pos hx,(Classical.choose_spec (Classical.choose_spec hx)).one hp]
noncomputable def lI (W H s:Int) (l:List Int) (f:aB) (ch:List Nat):List aB:=f::mF (fun u v=>eJ W H s l (aN W u) (aN W v)) [] ch
def HSrch (W H s:Int) (l:List Int) (f t:aB) (b:Int) (p:List aB) (c k e:Int):Prop:=
 (¬(inB W H f.1 f.2=true∧inB W H t.1 t.2=true)∧p=[]∧c=0∧k=0∧e=10)∨
 ((inB W H f.1 f.2=true∧inB W H t.1 t.2=true)∧b<0∧p=[]∧c=0∧k=0∧e=1)∨
 ((inB W H f.1 f.2=true∧inB W H t.1 t.2=true)∧0≤b∧(aO l W f=0∨aO l W t=0)∧p=[]∧c=0∧k=0∧e=22)∨
 ((inB W H f.1 f.2=true∧inB W H t.1 t.2=true)∧0≤b∧ ¬(aO l W f=0∨aO l W t=0)∧ ∃(g:Good W H s l) (hl:l.length≤150),LRun (hGr g hl f t) W (aC W t) b (lI W H s l f) (bA (aC W f)) p c k e)
theorem HSrch.one {W H s:Int} {l:List Int} {f t:aB} {b:Int} {p p':List aB} {c c' k k' e e':Int} (h:HSrch W H s l f t b p c k e) (h':HSrch W H s l f t b p' c' k' e'):p=p'∧c=c'∧k=k'∧e=e':=by
 rcases h with⟨h1,rfl,rfl,rfl,rfl⟩|⟨h1,h2,rfl,rfl,rfl,rfl⟩|⟨h1,h2,h3,rfl,rfl,rfl,rfl⟩|⟨h1,h2,h3,g,hl,h4⟩<;>
  rcases h' with⟨k1,rfl,rfl,rfl,rfl⟩|⟨k1,k2,rfl,rfl,rfl,rfl⟩|⟨k1,k2,k3,rfl,rfl,rfl,rfl⟩|⟨k1,k2,k3,g',hl',k4⟩<;>
  first
   |exact⟨rfl,rfl,rfl,rfl⟩
   |exact absurd k1 h1
   |exact absurd h1 k1
   |(exfalso;omega)
   |exact absurd h3 k3
   |exact absurd k3 h3
   |exact h4.one (by have:=mayB_true.1 (checkE_ok.1 g.ok).1;omega) k4
end Go.Proofs.YtaellcgglldjaaaGreat

