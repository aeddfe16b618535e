/- Part of a proof: HierS RedD LayC. -/
import Derived.Test.YtaellcgglldjaaaGreatHierFindsQ18
import Derived.Test.YtaellcgglldjaaaGreatHierFindsQ17
import Derived.Shelf.SlLaysF0
import Derived.Test.YtaellcgglldjaaaGreatHierFindsQ01
set_option linter.all false
set_option linter.unusedVariables false
set_option linter.unusedSimpArgs false
namespace Go.Proofs.YtaellcgglldjaaaGreat

structure LGr where
 n:Nat
 op:Nat→Bool
 legs:Nat→List (Nat×Int)
 lt: ∀v,op v=true→v<n
 leg: ∀v,op v=true→ ∀q∈legs v,op q.1=true∧0<q.2∧q.2≤10000000
def rl (c:Nat) (A:AS) (q:Nat×Int):AS:=if A.takes q.1 (A.g c+q.2) then A.put q.1 (A.g c+q.2) c else A
def rls (c:Nat) (A:AS) (L:List (Nat×Int)):AS:=L.foldl (rl c) A
def eG (G:LGr) (A:AS) (v:Nat):AS:=rls v (A.settle v) (G.legs v)
inductive LRun (G:LGr) (W:Int) (t:Nat) (b:Int) (P:List Nat→List aB):AS→List aB→Int→Int→Int→Prop where
 |none {A:AS}:(∀v,A.st v≠1)→LRun G W t b P A [] 0 A.cnt 22
 |full {A:AS} (v:Nat):A.st v=1→A.cnt=b→LRun G W t b P A [] 0 A.cnt 23
 |found {A:AS} {l:List Nat}:eL W (fun _=>0) A t→A.cnt≠b→Chain A.came t l→LRun G W t b P A (P l) (A.g t) (A.cnt+1) 0
 |next {A:AS} {v:Nat} {p:List aB} {c n e:Int}:eL W (fun _=>0) A v→A.cnt≠b→v≠t→LRun G W t b P (eG G A v) p c n e→LRun G W t b P A p c n e
theorem LRun.one {G:LGr} {W:Int} (hW:1≤W) {t:Nat} {b:Int} {P:List Nat→List aB} {A:AS} {p p':List aB} {c c' n n' e e':Int} (r:LRun G W t b P A p c n e):LRun G W t b P A p' c' n' e'→p=p'∧c=c'∧n=n'∧e=e':=by
 induction r generalizing p' c' n' e' with
 |none h0=>
  intro k
  cases k with
  |none _=>exact⟨rfl,rfl,rfl,rfl⟩
  |full v hv _=>exact absurd hv (h0 v)
  |found hb _ _=>exact absurd hb.1 (h0 _)
  |next hb _ _ _=>exact absurd hb.1 (h0 _)
 |full v hv hc=>
  intro k
  cases k with
  |none h0=>exact absurd hv (h0 v)
  |full _ _ _=>exact⟨rfl,rfl,rfl,rfl⟩
  |found _ hn _=>exact absurd hc hn
  |next _ hn _ _=>exact absurd hc hn
 |found hb hn hc=>
  intro k
  cases k with
  |none h0=>exact absurd hb.1 (h0 _)
  |full _ _ h1=>exact absurd h1 hn
  |found _ _ hc'=>rw[hc.one hc'];exact⟨rfl,rfl,rfl,rfl⟩
  |next hb' _ hne _=>exact absurd (kA hW hb' hb) hne
 |next hb hn hne _ ih=>
  intro k
  cases k with
  |none h0=>exact absurd hb.1 (h0 _)
  |full _ _ h1=>exact absurd h1 hn
  |found hb' _ _=>exact absurd (kA hW hb hb') hne
  |next hb' _ _ r'=>
   have:=kA hW hb hb'
   subst this
   exact ih r'
theorem aMz (c:Nat) (A:AS) (q:Nat×Int) (u:Nat):(rl c A q).st u=A.st u∨(u=q.1∧(rl c A q).st u=1∧A.st u≠2):=by
 unfold rl
 split
 ·next h=>
  by_cases e:u=q.1
  ·subst e;right;exact⟨rfl,cC _ _ _,by rcases h with h|h<;>omega⟩
  left;exact fA _ _ e
 left;rfl
theorem aN5 (c:Nat) (A:AS) (q:Nat×Int):(rl c A q).cnt=A.cnt:=by
 unfold rl;split<;>rfl
theorem uA (c:Nat) (A:AS) (q:Nat×Int) (u:Nat) (h:A.st u=2):(rl c A q).st u=2∧(rl c A q).g u=A.g u∧(rl c A q).came u=A.came u:=by
 unfold rl
 split
 ·next k=>
  have hne:u≠q.1:=fun e=>by subst e;rcases k with k|k<;>omega
  exact⟨(fA _ _ hne).trans h,gZ _ _ hne,gZ _ _ hne⟩
 exact⟨h,rfl,rfl⟩
theorem aHn (c:Nat): ∀(L:List (Nat×Int)) (A:AS) (u:Nat),(rls c A L).st u=A.st u∨((∃x,(u,x)∈L)∧(rls c A L).st u=1∧A.st u≠2)
 |[],_,_=> .inl rfl
 |q::L,A,u=>by
  show(rls c (rl c A q) L).st u=_∨_∧(rls c (rl c A q) L).st u=1∧_
  rcases aHn c L (rl c A q) u with h|⟨⟨x,h1⟩,h2,h3⟩
  ·rcases aMz c A q u with k|⟨k1,k2,k3⟩
   ·exact .inl (h.trans k)
   exact .inr ⟨⟨q.2,by rw[k1];exact List.mem_cons_self⟩,h.trans k2,k3⟩
  refine .inr ⟨⟨x,List.mem_cons_of_mem _ h1⟩,h2,fun e=> ?_⟩
  exact h3 (uA c A q u e).1
theorem aKl (c:Nat): ∀(L:List (Nat×Int)) (A:AS),(rls c A L).cnt=A.cnt
 |[],_=>rfl
 |q::L,A=>(aKl c L (rl c A q)).trans (aN5 c A q)
theorem aA9 (c:Nat): ∀(L:List (Nat×Int)) (A:AS) (u:Nat),A.st u=2→(rls c A L).st u=2∧(rls c A L).g u=A.g u∧(rls c A L).came u=A.came u
 |[],_,_,h=>⟨h,rfl,rfl⟩
 |q::L,A,u,h=>by
  obtain⟨h1,h2,h3⟩:=uA c A q u h
  obtain⟨k1,k2,k3⟩:=aA9 c L (rl c A q) u h1
  exact⟨k1,k2.trans h2,k3.trans h3⟩
theorem aK7 (G:LGr) (A:AS) (v u:Nat):(u=v∧A.st v≠2→(eG G A v).st u=2)∧((eG G A v).st u=2→u=v∨A.st u=2)∧((eG G A v).st u=1→A.st u=1∨ ∃x,(u,x)∈G.legs v):=by
 have hst: ∀x,(A.settle v).st x=if x=v then 2 else A.st x:=fun x=>rfl
 have h:=aHn v (G.legs v) (A.settle v) u
 rw[hst]at h
 refine⟨fun e=> ?_,fun e=> ?_,fun e=> ?_⟩
 ·rcases h with h|h
  ·exact h.trans (if_pos e.1)
  rw[if_pos e.1]at h;exact absurd rfl h.2.2
 ·rcases h with h|h
  ·by_cases k:u=v
   ·exact .inl k
   rw[if_neg k]at h;exact .inr (h.symm.trans e)
  have:=h.2.1
  have:(eG G A v).st u=1:=this
  omega
 rcases h with h|h
 ·by_cases k:u=v
  ·rw[if_pos k]at h;have:(eG G A v).st u=2:=h;omega
  rw[if_neg k]at h;exact .inl (h.symm.trans e)
 exact .inr h.1
theorem aDc (G:LGr) (A:AS) (v:Nat):(eG G A v).cnt=A.cnt+1:=aKl v _ _
structure LInv (G:LGr) (s:Nat) (A:AS):Prop where
 two: ∀v,A.st v≤2
 op: ∀v,A.st v≠0→G.op v=true
 s0:A.st s≠0
 sg:A.g s=0
 sc:A.came s= -1
 bd: ∀v,A.st v≠0→0≤A.g v∧A.g v≤10000000*A.cnt
 bd2: ∀v,A.st v=2→A.g v+10000000≤10000000*A.cnt
 back: ∀v,A.st v≠0→v≠s→ ∃(u:Nat) (x:Int),A.came v=(u:Int)∧A.st u=2∧(v,x)∈G.legs u∧A.g v=A.g u+x
 cnt:((List.range G.n).countP (fun v=>decide (A.st v=2)):Int)=A.cnt
section
variable {G:LGr} {s:Nat} {A:AS}
theorem LInv.few (I:LInv G s A):0≤A.cnt∧A.cnt≤G.n:=by
 have h:=List.countP_le_length (p:=fun v=>decide (A.st v=2)) (l:=List.range G.n)
 rw[List.length_range]at h
 have:=I.cnt
 omega
theorem LInv.opens (I:LInv G s A) {v:Nat} (hv:A.st v=1):A.cnt<G.n:=by
 have hlt:=G.lt v (I.op v (by omega))
 have hc:=I.cnt
 have h1:(List.range G.n).countP (fun v=>decide (A.st v=2))<(List.range G.n).countP (fun _=>true):=by
  have hm: ∀l:List Nat,v∈l→l.countP (fun v=>decide (A.st v=2))<l.countP (fun _=>true):=by
   intro l
   induction l with
   |nil=>intro h;cases h
   |cons a l ih=>
    intro h
    rw[List.countP_cons,List.countP_cons]
    have hle:l.countP (fun v=>decide (A.st v=2))≤l.countP (fun _=>true):=List.countP_mono_left fun _ _ _=>rfl
    by_cases e:v=a
    ·subst e;simp[hv];simp at hle;omega
    have:=ih ((List.mem_cons.1 h).resolve_left e)
    split<;>simp at * <;>omega
  exact hm _ (List.mem_range.2 hlt)
 rw[List.countP_true,List.length_range]at h1
 omega
theorem tO (hs:G.op s=true):LInv G s (aY s) where
 two v:=by unfold aY bS;simp only;split<;>omega
 op v hv:=by
  unfold aY bS at hv
  simp only at hv
  split at hv
  ·next e=>rw[e];exact hs
  exact absurd rfl hv
 s0:=by simp[aY,bS]
 sg:=rfl
 sc:=by simp[aY,iT]
 bd v _:=⟨Int.le_refl _,Int.le_refl _⟩
 bd2 v hv:=by
  unfold aY bS at hv
  simp only at hv
  split at hv<;>omega
 back v hv hn:=by
  unfold aY bS at hv
  simp only at hv
  split at hv
  ·next e=>exact absurd e hn
  exact absurd rfl hv
 cnt:=by
  have:(List.range G.n).countP (fun v=>decide ((aY s).st v=2))=0:=by
   rw[List.countP_eq_zero]
   intro v _
   unfold aY bS
   simp only[decide_eq_true_eq]
   split<;>omega
  rw[this];rfl
theorem rP (I:LInv G s A) {v:Nat} (h1:A.st v=1):LInv G s (A.settle v):=by
 have hst: ∀u,(A.settle v).st u=if u=v then 2 else A.st u:=fun u=>rfl
 have hnz: ∀u,(A.settle v).st u≠0→A.st u≠0:=fun u hu=>by
  rw[hst]at hu
  split at hu
  ·next e=>subst e;omega
  exact hu
 have h2: ∀u,A.st u=2→(A.settle v).st u=2:=fun u hu=>by rw[hst];split<;>omega
 refine⟨fun u=> ?_,fun u hu=>I.op u (hnz u hu),?_,I.sg,I.sc,fun u hu=> ?_,fun u hu=> ?_,fun u hu hs=> ?_,?_⟩
 ·rw[hst];have:=I.two u;split<;>omega
 ·rw[hst];have:=I.s0;split<;>omega
 ·have:=I.bd u (hnz u hu)
  show 0≤A.g u∧A.g u≤10000000*(A.cnt+1)
  omega
 ·show A.g u+10000000≤10000000*(A.cnt+1)
  rw[hst]at hu
  split at hu
  ·next e=>subst e;have:=I.bd u (by omega);omega
  have:=I.bd2 u hu;omega
 ·obtain⟨w,x,w1,w2,w3,w4⟩:=I.back u (hnz u hu) hs
  exact⟨w,x,w1,h2 w w2,w3,w4⟩
 have hlt:=G.lt v (I.op v (by omega))
 have hc:=I.cnt
 have hcount: ∀l:List Nat,l.Nodup→l.countP (fun u=>decide ((A.settle v).st u=2))=l.countP (fun u=>decide (A.st u=2))+if v∈l then 1 else 0:=by
  intro l
  induction l with
  |nil=>intro _;rfl
  |cons a l ih=>
   intro hnd
   obtain⟨n1,n2⟩:=List.nodup_cons.1 hnd
   rw[List.countP_cons,List.countP_cons,ih n2,hst]
   by_cases e:a=v
   ·subst e
    rw[if_pos rfl,if_neg n1,h1]
    simp
   have e2: ¬v=a:=fun h=>e h.symm
   rw[if_neg e]
   by_cases hm:v∈l
   ·rw[if_pos hm,if_pos (List.mem_cons_of_mem a hm)];omega
   have hm2: ¬v∈a::l:=fun h=>(List.mem_cons.1 h).elim e2 hm
   rw[if_neg hm,if_neg hm2];omega
 rw[hcount _ List.nodup_range,if_pos (List.mem_range.2 hlt)]
 show _=A.cnt+1
 push_cast
 omega
theorem aLg (I:LInv G s A) {c:Nat} {q:Nat×Int} (hc:A.st c=2) (hq:q∈G.legs c):LInv G s (rl c A q):=by
 obtain⟨m,x⟩:=q
 obtain⟨hm,hx0,hx1⟩:=G.leg c (I.op c (by omega)) _ hq
 simp only at hm hx0 hx1
 have hb2:=I.bd2 c hc
 have hbc:=I.bd c (by omega)
 unfold rl
 simp only
 split
 ·next ht=>
  have hnot2:A.st m≠2:=by rcases ht with h|h<;>omega
  have hnots:m≠s:=fun hs=>by
   subst hs
   have h0:=I.s0
   have h1:=I.sg
   rcases ht with h|h
   ·exact h0 h
   omega
  have hst: ∀u,(A.put m (A.g c+x) c).st u=if u=m then 1 else A.st u:=fun u=>rfl
  have hg: ∀u,(A.put m (A.g c+x) c).g u=if u=m then A.g c+x else A.g u:=fun u=>rfl
  have hcm: ∀u,(A.put m (A.g c+x) c).came u=if u=m then(c:Int) else A.came u:=fun u=>rfl
  have hcne:c≠m:=fun h=>hnot2 (h▸hc)
  have h2: ∀u,(A.put m (A.g c+x) c).st u=2→A.st u=2∧u≠m:=fun u hu=>by
   rw[hst]at hu
   split at hu
   ·omega
   exact⟨hu,by assumption⟩
  refine⟨fun u=> ?_,fun u hu=> ?_,?_,?_,?_,fun u hu=> ?_,fun u hu=> ?_,fun u hu hs=> ?_,?_⟩
  ·rw[hst];have:=I.two u;split<;>omega
  ·rw[hst]at hu
   split at hu
   ·next h=>rw[h];exact hm
   exact I.op u hu
  ·rw[hst,if_neg (fun h=>hnots h.symm)];exact I.s0
  ·rw[hg,if_neg (fun h=>hnots h.symm)];exact I.sg
  ·rw[hcm,if_neg (fun h=>hnots h.symm)];exact I.sc
  ·rw[hst]at hu
   rw[hg]
   show _∧_≤10000000*A.cnt
   split
   ·omega
   next h=>rw[if_neg h]at hu;exact I.bd u hu
  ·obtain⟨k1,k2⟩:=h2 u hu
   rw[hg,if_neg k2];exact I.bd2 u k1
  ·by_cases hum:u=m
   ·subst hum
    refine⟨c,x,by rw[hcm,if_pos rfl],by rw[hst,if_neg hcne];exact hc,hq,?_⟩
    rw[hg,if_pos rfl,hg,if_neg hcne]
   rw[hst,if_neg hum]at hu
   obtain⟨w,y,w1,w2,w3,w4⟩:=I.back u hu hs
   have hwm:w≠m:=fun h=>hnot2 (h▸w2)
   exact⟨w,y,by rw[hcm,if_neg hum];exact w1,by rw[hst,if_neg hwm];exact w2,w3,by rw[hg,if_neg hum,hg,if_neg hwm];exact w4⟩
  have:=I.cnt
  show _=A.cnt
  rw[←this]
  congr 1
  refine List.countP_congr fun u _=> ?_
  rw[hst]
  simp only[decide_eq_true_eq]
  split
  ·next h=>subst h;omega
  exact Iff.rfl
 exact I
theorem sI {c:Nat}: ∀(L:List (Nat×Int)) {A:AS},LInv G s A→A.st c=2→(∀q,q∈L→q∈G.legs c)→LInv G s (rls c A L)
 |[],_,I,_,_=>I
 |q::L,A,I,hc,hl=>sI L (aLg I hc (hl q List.mem_cons_self)) (uA c A q c hc).1 (fun x hx=>hl x (List.mem_cons_of_mem _ hx))
theorem qG (I:LInv G s A) {v:Nat} (h1:A.st v=1):LInv G s (eG G A v):=
 sI _ (rP I h1) (cC _ _ _) (fun _ h=>h)
theorem qF (I:LInv G s A): ∀(k:Nat) (v:Nat),A.g v=(k:Int)→A.st v≠0→ ∃l,Chain A.came v l∧(∀u,u∈l→A.st u≠0∧A.g u≤A.g v)∧l.Nodup:=by
 intro k
 induction k using Nat.strongRecOn with
 |_ k ih=>
  intro v hv h0
  by_cases hs:v=s
  ·subst hs
   exact⟨[v], .stop (by rw[I.sc];decide),fun u hu=>by simp at hu;subst hu;exact⟨h0,Int.le_refl _⟩,by simp⟩
  obtain⟨u,x,u1,u2,u3,u4⟩:=I.back v h0 hs
  have hx:=(G.leg u (I.op u (by omega)) _ u3).2
  simp only at hx
  have hu:=I.bd u (by omega)
  obtain⟨l,l1,l2,l3⟩:=ih (A.g u).toNat (by omega) u (by omega) (by omega)
  refine⟨v::l, .go u1 l1,fun w hw=> ?_,List.nodup_cons.2 ⟨fun hm=> ?_,l3⟩⟩
  ·rcases List.mem_cons.1 hw with rfl|hw
   ·exact⟨h0,Int.le_refl _⟩
   have:=l2 w hw;exact⟨this.1,by omega⟩
  have:=(l2 v hm).2;omega
end
def fH (wR:Nat→Nat→List aB):List aB→List Nat→List aB
 |acc,[]=>acc
 |acc,[_]=>acc
 |acc,v::u::r=>fH wR (wR u v++acc) (u::r)
end Go.Proofs.YtaellcgglldjaaaGreat

namespace Go.Proofs.YtaellcgglldjaaaGreat
open Go.RowKit
def mD (W H s a b:Int):Prop:=0≤a∧b<cnt W H s∧a<b∧b∈aQ W H s a
theorem aFo (l:List Int) (W H s x y:Int):btw l W H s (min x y) (max x y)=btw l W H s x y:=by
 unfold btw fP
 rw[show min (min x y) (max x y)=min x y by omega,show max (min x y) (max x y)=max x y by omega]
theorem aB6 {W H s a b:Int} (hr:aK W H s=true) (h0:0≤a) (ha:a<cnt W H s) (hb:b∈aQ W H s a):mD W H s (min a b) (max a b):=by
 have hrg:=jG hr h0 ha hb
 have hne:b≠a:=by
  rintro rfl
  have h:=fV (id:=b) hr
  rw[hasI_iff.2 hb]at h
  cases h
 by_cases hlt:a<b
 ·rw[show min a b=a by omega,show max a b=b by omega]
  exact⟨h0,hrg.2,hlt,hb⟩
 rw[show min a b=b by omega,show max a b=a by omega]
 obtain⟨h1,h2,h3,h4,h5,h6⟩:=rightB_true.1 hr
 have b1:=bU W s h5 h6 h1 h2
 have hp:Pair W H s b a:=by
  refine⟨hrg.1,ha,?_⟩
  rcases beside_mem.1 hb with⟨h,e⟩|⟨h,e⟩|⟨h,e⟩|⟨h,e⟩
  ·right;omega
  ·omega
  ·omega
  left
  refine⟨by omega,?_⟩
  have e1:=Int.emod_add_mul_ediv a (acr W s)
  have e2:b=(a% acr W s-1)+acr W s*(a/acr W s):=by omega
  have e3:=Int.emod_lt_of_pos a (show 0<acr W s by omega)
  rw[e2,Int.add_mul_emod_self_left,Int.emod_eq_of_lt (by omega) (by omega)]
  omega
 exact⟨hrg.1,ha,by omega,(hp.mem hr).1⟩
theorem zP {W H s a b:Int} (h:mD W H s a b):eP (aQ W H s a) b=true:=hasI_iff.2 h.2.2.2
theorem aH2 {W H s a b:Int} (hr:aK W H s=true) (h:mD W H s a b):a∈aQ W H s b:=(((lB hr h.1 h.2.2.1 h.2.1).1 (zP h)).mem hr).2
def Inv (W H s:Int) (l:List Int) (tu:List Bool) (G0:Int→Int→Option (List (aB×aB))) (k:Nat) (G:Int→Int→Option (List (aB×aB))):Prop:=
 ∀a b,mD W H s a b→((tu.getD a.toNat false=true∧a<k)∨(tu.getD b.toNat false=true∧b<k)∨G0 a b=some (btw l W H s a b))→G a b=some (btw l W H s a b)
def InvJ (W H s:Int) (l:List Int) (G:Int→Int→Option (List (aB×aB))) (k:Nat) (L:List Int) (j:Nat):Prop:=
 ∀(i:Nat) (b:Int),i<j→L[i]? =some b→G (min (k:Int) b) (max (k:Int) b)=some (btw l W H s (k:Int) b)
section
variable {W H s:Int} {l:List Int} {tu:List Bool} {G0 G:Int→Int→Option (List (aB×aB))} {k:Nat} {L:List Int} {j:Nat}
theorem Inv.skip (h:Inv W H s l tu G0 k G) (ht:tu[k]? =some false):Inv W H s l tu G0 (k+1) G:=fun a b hn hc=>by
 have hf:tu.getD k false=false:=by simp[List.getD_eq_getElem?_getD,ht]
 refine h a b hn ?_
 obtain⟨n1,n2,n3,n4⟩:=hn
 rcases hc with⟨h1,h2⟩|⟨h1,h2⟩|h1
 ·refine .inl ⟨h1,?_⟩
  by_cases e:a=k
  ·subst e;simp only[Int.toNat_natCast]at h1;rw[hf]at h1;cases h1
  omega
 ·refine .inr (.inl ⟨h1,?_⟩)
  by_cases e:b=k
  ·subst e;simp only[Int.toNat_natCast]at h1;rw[hf]at h1;cases h1
  omega
 exact .inr (.inr h1)
theorem Inv.put (h:Inv W H s l tu G0 k G) (b:Int):Inv W H s l tu G0 k (vB G (min (k:Int) b) (max (k:Int) b) (btw l W H s (k:Int) b)):=fun a c hn hc=>by
 unfold vB
 by_cases e:a=min (k:Int) b∧c=max (k:Int) b
 ·rw[if_pos e,e.1,e.2,aFo]
 rw[if_neg e];exact h a c hn hc
theorem InvJ.put (h:InvJ W H s l G k L j) {b:Int} (hb:L[j]? =some b):InvJ W H s l (vB G (min (k:Int) b) (max (k:Int) b) (btw l W H s (k:Int) b)) k L (j+1):=fun i c hi hc=>by
 unfold vB
 by_cases e:min (k:Int) c=min (k:Int) b∧max (k:Int) c=max (k:Int) b
 ·rw[if_pos e]
  obtain rfl:c=b:=by omega
  rfl
 rw[if_neg e]
 refine h i c ?_ hc
 by_cases hij:i=j
 ·subst hij
  rw[hb]at hc
  cases hc
  exact absurd ⟨rfl,rfl⟩ e
 omega
theorem Inv.next (hr:aK W H s=true) (h:Inv W H s l tu G0 k G) (hj:InvJ W H s l G k (aQ W H s (k:Int)) (aQ W H s (k:Int)).length):Inv W H s l tu G0 (k+1) G:=fun a b hn hc=>by
 have hJ: ∀c,c∈aQ W H s (k:Int)→G (min (k:Int) c) (max (k:Int) c)=some (btw l W H s (k:Int) c):=fun c hc=>by
  obtain⟨i,hi,rfl⟩:=List.getElem_of_mem hc
  exact hj i _ hi (zG hi)
 have hlt:=hn.2.2.1
 by_cases ea:a=k
 ·have h2:=hJ b (by rw[←ea];exact hn.2.2.2)
  rw[←ea,show min a b=a by omega,show max a b=b by omega]at h2
  exact h2
 by_cases eb:b=k
 ·have h2:=hJ a (by rw[←eb];exact aH2 hr hn)
  rw[←aFo,←eb,show min b a=a by omega,show max b a=b by omega]at h2
  exact h2
 refine h a b hn ?_
 rcases hc with⟨h1,h2⟩|⟨h1,h2⟩|h1
 ·exact .inl ⟨h1,by omega⟩
 ·exact .inr (.inl ⟨h1,by omega⟩)
 exact .inr (.inr h1)
theorem Inv.full {n:Nat} (h:Inv W H s l tu G0 n G) (hn:(n:Int)=cnt W H s) (hG: ∀a b,mD W H s a b→tu.getD a.toNat false=true∨tu.getD b.toNat false=true∨G0 a b=some (btw l W H s a b)):xN W H s l G:=fun a b h0 hb hlt hm=>by
 have hnr:mD W H s a b:=⟨h0,hb,hlt,hm⟩
 refine h a b hnr ?_
 rcases hG a b hnr with h1|h1|h1
 ·exact .inl ⟨h1,by omega⟩
 ·exact .inr (.inl ⟨h1,by omega⟩)
 exact .inr (.inr h1)
end
end Go.Proofs.YtaellcgglldjaaaGreat

namespace Go.Proofs.YtaellcgglldjaaaGreat
open Go.Shelf Go.RowKit
def aHy:Go.Shelf.Ren:=⟨fun|6=>133|14=>171|15=>126|20=>188|21=>189|22=>190|23=>191|24=>192|25=>193|26=>194|27=>195|28=>168|29=>169|46=>199|47=>183|48=>184|49=>200|50=>201|57=>202|n=>n,fun|0=>0|3=>3|4=>4|5=>5|9=>9|22=>37|24=>28|25=>230|39=>171|45=>257|46=>258|50=>243|53=>238|55=>38|66=>276|70=>280|76=>292|77=>293|n=>n,fun n=>n⟩
theorem xR:SlLaysF0.n6 Tryz.prog aHy:={
 mixed:=by kernel_rfl,
 f6:=⟨Tryz.f133.name,by decide,Tryz.func133.trans (congrArg some (by kernel_rfl))⟩,
 f14:=⟨Tryz.f171.name,by decide,Tryz.func171.trans (congrArg some (by kernel_rfl))⟩,
 f15:=Tryz.func126.trans (congrArg some (by kernel_rfl)),
 f20:=⟨Tryz.f188.name,by decide,Tryz.func188.trans (congrArg some (by kernel_rfl))⟩,
 f21:=⟨Tryz.f189.name,by decide,Tryz.func189.trans (congrArg some (by kernel_rfl))⟩,
 f22:=⟨Tryz.f190.name,by decide,Tryz.func190.trans (congrArg some (by kernel_rfl))⟩,
 f23:=⟨Tryz.f191.name,by decide,Tryz.func191.trans (congrArg some (by kernel_rfl))⟩,
 f24:=⟨Tryz.f192.name,by decide,Tryz.func192.trans (congrArg some (by kernel_rfl))⟩,
 f25:=⟨Tryz.f193.name,by decide,Tryz.func193.trans (congrArg some (by kernel_rfl))⟩,
 f26:=⟨Tryz.f194.name,by decide,Tryz.func194.trans (congrArg some (by kernel_rfl))⟩,
 f27:=⟨Tryz.f195.name,by decide,Tryz.func195.trans (congrArg some (by kernel_rfl))⟩,
 f28:=Tryz.func168.trans (congrArg some (by kernel_rfl)),
 f29:=Tryz.func169.trans (congrArg some (by kernel_rfl)),
 f46:=⟨Tryz.f199.name,by decide,Tryz.func199.trans (congrArg some (by kernel_rfl))⟩,
 f47:=Tryz.func183.trans (congrArg some (by kernel_rfl)),
 f48:=Tryz.func184.trans (congrArg some (by kernel_rfl)),
 f49:=⟨Tryz.f200.name,by decide,Tryz.func200.trans (congrArg some (by kernel_rfl))⟩,
 f50:=⟨Tryz.f201.name,by decide,Tryz.func201.trans (congrArg some (by kernel_rfl))⟩,
 f57:=⟨Tryz.f202.name,by decide,Tryz.func202.trans (congrArg some (by kernel_rfl))⟩,
 t0:=Tryz.underlying0,
 a0:=Tryz.isAgg0,
 z0:=Tryz.sizeOf0,
 v0:=Tryz.zeroValue0,
 t3:=Tryz.underlying3,
 a3:=Tryz.isAgg3,
 z3:=Tryz.sizeOf3,
 v3:=Tryz.zeroValue3,
 t4:=Tryz.underlying4,
 a4:=Tryz.isAgg4,
 z4:=Tryz.sizeOf4,
 v4:=Tryz.zeroValue4,
 t5:=Tryz.underlying5,
 a5:=Tryz.isAgg5,
 z5:=Tryz.sizeOf5,
 v5:=Tryz.zeroValue5,
 t9:=Tryz.underlying9,
 a9:=Tryz.isAgg9,
 z9:=Tryz.sizeOf9,
 v9:=Tryz.zeroValue9,
 t22:=Tryz.underlying37,
 a22:=Tryz.isAgg37,
 z22:=Tryz.sizeOf37,
 v22:=Tryz.zeroValue37,
 t25:=Tryz.underlying230,
 a25:=Tryz.isAgg230,
 z25:=Tryz.sizeOf230,
 v25:=Tryz.zeroValue230,
 t39:=Tryz.underlying171,
 a39:=Tryz.isAgg171,
 z39:=Tryz.sizeOf171,
 v39:=Tryz.zeroValue171,
 t45:=Tryz.underlying257,
 a45:=Tryz.isAgg257,
 z45:=Tryz.sizeOf257,
 v45:=Tryz.zeroValue257,
 t46:=Tryz.underlying258,
 a46:=Tryz.isAgg258,
 z46:=Tryz.sizeOf258,
 v46:=Tryz.zeroValue258,
 t50:=Tryz.underlying243,
 a50:=Tryz.isAgg243,
 z50:=Tryz.sizeOf243,
 v50:=Tryz.zeroValue243,
 t53:=Tryz.underlying238,
 a53:=Tryz.isAgg238,
 z53:=Tryz.sizeOf238,
 v53:=Tryz.zeroValue238,
 t55:=Tryz.underlying38,
 a55:=Tryz.isAgg38,
 z55:=Tryz.sizeOf38,
 v55:=Tryz.zeroValue38,
 t66:=Tryz.underlying276,
 a66:=Tryz.isAgg276,
 z66:=Tryz.sizeOf276,
 v66:=Tryz.zeroValue276,
 t70:=Tryz.underlying280,
 a70:=Tryz.isAgg280,
 z70:=Tryz.sizeOf280,
 v70:=Tryz.zeroValue280,
 t76:=Tryz.underlying292,
 a76:=Tryz.isAgg292,
 z76:=Tryz.sizeOf292,
 v76:=Tryz.zeroValue292,
 t77:=Tryz.underlying293,
 a77:=Tryz.isAgg293,
 z77:=Tryz.sizeOf293,
 v77:=Tryz.zeroValue293}
end Go.Proofs.YtaellcgglldjaaaGreat

