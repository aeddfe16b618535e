/- Part of a proof: StarP StarL. -/
import Derived.Test.YtaellcgglldjaaaGreatHierFindsQ10
import Derived.Test.YtaellcgglldjaaaGreatHierFindsQ08
set_option linter.all false
set_option linter.unusedVariables false
set_option linter.unusedSimpArgs false
namespace Go.Proofs.YtaellcgglldjaaaGreat

structure AS where
 st:Nat→Nat
 g:Nat→Int
 came:Nat→Int
 cnt:Int
def bS (f:Nat→Nat) (j:Nat) (x:Nat) (v:Nat):Nat:=if v=j then x else f v
theorem cC (f:Nat→Nat) (j:Nat) (x:Nat):bS f j x j=x:=if_pos rfl
theorem fA (f:Nat→Nat) {j v:Nat} (x:Nat) (h:v≠j):bS f j x v=f v:=if_neg h
def iT (f:Nat→Int) (j:Nat) (x:Int) (v:Nat):Int:=if v=j then x else f v
theorem wY (f:Nat→Int) (j:Nat) (x:Int):iT f j x j=x:=if_pos rfl
theorem gZ (f:Nat→Int) {j v:Nat} (x:Int) (h:v≠j):iT f j x v=f v:=if_neg h
def AS.put (A:AS) (m:Nat) (x:Int) (c:Int):AS:={A with st:=bS A.st m 1,g:=iT A.g m x,came:=iT A.came m c}
def AS.takes (A:AS) (m:Nat) (x:Int):Prop:=A.st m=0∨A.st m=1∧x<A.g m
instance (A:AS) (m:Nat) (x:Int):Decidable (A.takes m x):=by unfold AS.takes;exact inferInstance
def rx (G:Net) (c:Nat) (A:AS) (m:Nat):AS:=if A.takes m (A.g c+G.cost m) then A.put m (A.g c+G.cost m) c else A
def rxs (G:Net) (c:Nat) (A:AS) (l:List Nat):AS:=l.foldl (rx G c) A
def AS.settle (A:AS) (v:Nat):AS:={A with st:=bS A.st v 2,cnt:=A.cnt+1}
def kQ (G:Net) (A:AS) (v:Nat):AS:=rxs G v (A.settle v) (G.adj v)
def kOf (W:Int) (h:Nat→Int) (A:AS) (v:Nat):fN:=((A.g v+h v,h v),(vy W v,vx W v))
def eL (W:Int) (h:Nat→Int) (A:AS) (v:Nat):Prop:=A.st v=1∧ ∀u,A.st u=1→bP (kOf W h A u) (kOf W h A v)=false
inductive Chain (came:Nat→Int):Nat→List Nat→Prop where
 |stop {v:Nat}:came v<0→Chain came v [v]
 |go {v u:Nat} {l:List Nat}:came v=(u:Int)→Chain came u l→Chain came v (v::l)
inductive ARun (G:Net) (W:Int) (h:Nat→Int) (t:Nat) (b:Int):AS→List Nat→Int→Int→Int→Prop where
 |none {A:AS}:(∀v,A.st v≠1)→ARun G W h t b A [] 0 A.cnt 22
 |full {A:AS} (v:Nat):A.st v=1→A.cnt=b→ARun G W h t b A [] 0 A.cnt 23
 |found {A:AS} {l:List Nat}:eL W h A t→A.cnt≠b→Chain A.came t l→ARun G W h t b A l.reverse (A.g t) (A.cnt+1) 0
 |next {A:AS} {v:Nat} {p:List Nat} {c n e:Int}:eL W h A v→A.cnt≠b→v≠t→ARun G W h t b (kQ G A v) p c n e→ARun G W h t b A p c n e
def aY (s:Nat):AS:={st:=bS (fun _=>0) s 1,g:=fun _=>0,came:=iT (fun _=>0) s (-1),cnt:=0}
theorem Chain.one {came:Nat→Int} {v:Nat} {l m:List Nat} (h:Chain came v l):Chain came v m→l=m:=by
 induction h generalizing m with
 |stop h0=>
  intro k
  cases k with
  |stop _=>rfl
  |go h1 _=>omega
 |go h0 _ ih=>
  intro k
  cases k with
  |stop h1=>omega
  |go h1 h2=>
   have:_=_:=Int.ofNat.inj (h0.symm.trans h1)
   subst this
   rw[ih h2]
theorem kA {W:Int} (hW:1≤W) {h:Nat→Int} {A:AS} {u v:Nat} (hu:eL W h A u) (hv:eL W h A v):u=v:=by
 have h1:=hu.2 v hv.1
 have h2:=hv.2 u hu.1
 have n1: ¬bP (kOf W h A v) (kOf W h A u)=true:=by rw[h1];simp
 have n2: ¬bP (kOf W h A u) (kOf W h A v)=true:=by rw[h2];simp
 rw[lessB_iff]at n1 n2
 unfold kOf at n1 n2
 simp only at n1 n2
 have hy:vy W u=vy W v:=by omega
 have hx:vx W u=vx W v:=by omega
 rw[←gE hW u,←gE hW v,hx,hy]
theorem ARun.one {G:Net} {W:Int} (hW:1≤W) {h:Nat→Int} {t:Nat} {b:Int} {A:AS} {p p':List Nat} {c c' n n' e e':Int} (r:ARun G W h t b A p c n e):ARun G W h t b A p' c' n' e'→p=p'∧c=c'∧n=n'∧e=e':=by
 induction r generalizing p' c' n' e' with
 |none h0=>
  intro k
  cases k with
  |none _=>exact⟨rfl,rfl,rfl,rfl⟩
  |full v hv _=>exact absurd hv (h0 v)
  |found hb _ _=>exact absurd hb.1 (h0 _)
  |next hb _ _ _=>exact absurd hb.1 (h0 _)
 |full v hv hc=>
  intro k
  cases k with
  |none h0=>exact absurd hv (h0 v)
  |full _ _ _=>exact⟨rfl,rfl,rfl,rfl⟩
  |found _ hn _=>exact absurd hc hn
  |next _ hn _ _=>exact absurd hc hn
 |found hb hn hc=>
  intro k
  cases k with
  |none h0=>exact absurd hb.1 (h0 _)
  |full _ _ h1=>exact absurd h1 hn
  |found _ _ hc'=>rw[hc.one hc'];exact⟨rfl,rfl,rfl,rfl⟩
  |next hb' _ hne _=>exact absurd (kA hW hb' hb) hne
 |next hb hn hne _ ih=>
  intro k
  cases k with
  |none h0=>exact absurd hb.1 (h0 _)
  |full _ _ h1=>exact absurd h1 hn
  |found hb' _ _=>exact absurd (kA hW hb hb') hne
  |next hb' _ _ r'=>
   have:=kA hW hb hb'
   subst this
   exact ih r'
structure SInv (G:Net) (D:Nat→Int) (s:Nat) (A:AS) (pend:Nat→Nat→Prop):Prop where
 two: ∀v,A.st v≤2
 op: ∀v,A.st v≠0→G.op v=true
 s0:A.st s≠0
 sg:A.g s=0
 sc:A.came s= -1
 opt: ∀v,A.st v=2→A.g v=D v
 lo: ∀v,A.st v≠0→D v≤A.g v
 bd: ∀v,A.st v≠0→0≤A.g v∧A.g v≤65535*A.cnt
 bd2: ∀v,A.st v=2→A.g v+65535≤65535*A.cnt
 back: ∀v,A.st v≠0→v≠s→ ∃u:Nat,A.came v=(u:Int)∧A.st u=2∧v∈G.adj u∧A.g v=A.g u+G.cost v
 reach: ∀u v,A.st u=2→G.op v=true→v∈G.adj u→ ¬pend u v→A.st v≠0∧A.g v≤A.g u+G.cost v
 cnt:((List.range G.n).countP (fun v=>decide (A.st v=2)):Int)=A.cnt
section
variable {G:Net} {D:Nat→Int} {s:Nat} {A:AS} {pend pend':Nat→Nat→Prop}
theorem SInv.weaken (I:SInv G D s A pend) (h: ∀u v,A.st u=2→v∈G.adj u→pend u v→pend' u v):SInv G D s A pend':=
 {I with reach:=fun u v hu ho ha hp=>I.reach u v hu ho ha fun k=>hp (h u v hu ha k)}
theorem SInv.few (I:SInv G D s A pend):0≤A.cnt∧A.cnt≤G.n:=by
 have h:=List.countP_le_length (p:=fun v=>decide (A.st v=2)) (l:=List.range G.n)
 rw[List.length_range]at h
 have:=I.cnt
 omega
theorem SInv.opens (I:SInv G D s A pend) {v:Nat} (hv:A.st v=1):A.cnt<G.n:=by
 have hlt:=G.lt v (I.op v (by omega))
 have hc:=I.cnt
 have h1:(List.range G.n).countP (fun v=>decide (A.st v=2))<(List.range G.n).countP (fun _=>true):=by
  have hm: ∀l:List Nat,v∈l→l.countP (fun v=>decide (A.st v=2))<l.countP (fun _=>true):=by
   intro l
   induction l with
   |nil=>intro h;cases h
   |cons a l ih=>
    intro h
    rw[List.countP_cons,List.countP_cons]
    have hle:l.countP (fun v=>decide (A.st v=2))≤l.countP (fun _=>true):=List.countP_mono_left fun _ _ _=>rfl
    by_cases e:v=a
    ·subst e;simp[hv];simp at hle;omega
    have:=ih ((List.mem_cons.1 h).resolve_left e)
    split<;>simp at * <;>omega
  exact hm _ (List.mem_range.2 hlt)
 rw[List.countP_true,List.length_range]at h1
 omega
theorem uG (hs:G.op s=true) (F:IsFar G s D):SInv G D s (aY s) (fun _ _=>False) where
 two v:=by unfold aY bS;simp only;split<;>omega
 op v hv:=by
  unfold aY bS at hv
  simp only at hv
  split at hv
  ·next e=>rw[e];exact hs
  exact absurd rfl hv
 s0:=by simp[aY,bS]
 sg:=rfl
 sc:=by simp[aY,iT]
 opt v hv:=by
  unfold aY bS at hv
  simp only at hv
  split at hv<;>omega
 lo v hv:=by
  unfold aY bS at hv
  simp only at hv
  split at hv
  ·next e=>rw[e,F.start hs];exact Int.le_refl _
  exact absurd rfl hv
 bd v _:=⟨Int.le_refl _,Int.le_refl _⟩
 bd2 v hv:=by
  unfold aY bS at hv
  simp only at hv
  split at hv<;>omega
 back v hv hn:=by
  unfold aY bS at hv
  simp only at hv
  split at hv
  ·next e=>exact absurd e hn
  exact absurd rfl hv
 reach u v hu:=by
  unfold aY bS at hu
  simp only at hu
  split at hu<;>omega
 cnt:=by
  have:(List.range G.n).countP (fun v=>decide ((aY s).st v=2))=0:=by
   rw[List.countP_eq_zero]
   intro v _
   unfold aY bS
   simp only[decide_eq_true_eq]
   split<;>omega
  rw[this];rfl
def oO (G:Net) (h:Nat→Int):Prop:= ∀u v,G.op u=true→G.op v=true→v∈G.adj u→h u≤h v+1
theorem aAl (I:SInv G D s A (fun _ _=>False)) (F:IsFar G s D) {h:Nat→Int} (hg:oO G h): ∀(k:Nat) (y:Nat),D y=(k:Int)→D y<aJ→A.st y≠2→ ∃x,A.st x=1∧A.g x=D x∧D x+h x≤D y+h y:=by
 intro k
 induction k using Nat.strongRecOn with
 |_ k ih=>
  intro y hy hf h2
  have ho:=F.open_ hf
  by_cases hs:y=s
  ·subst hs
   have h1:=I.two y
   have h3:=I.s0
   exact⟨y,by omega,by rw[I.sg,F.start ho],Int.le_refl _⟩
  obtain⟨u,hu,huo,he⟩:=F.from_ y ho hs hf
  have hc:=G.pos y ho
  have hn:=F.nn u
  have hgu:=hg u y huo ho (G.sym u y huo ho hu)
  by_cases hu2:A.st u=2
  ·obtain⟨r1,r2⟩:=I.reach u y hu2 ho (G.sym u y huo ho hu) (fun x=>x)
   have h1:=I.two y
   have h3:=I.lo y r1
   rw[I.opt u hu2]at r2
   exact⟨y,by omega,by omega,Int.le_refl _⟩
  obtain⟨x,x1,x2,x3⟩:=ih (D u).toNat (by omega) u (by omega) (by omega) hu2
  exact⟨x,x1,x2,by omega⟩
theorem aCh {W:Int} {h:Nat→Int} {v:Nat} (hb:eL W h A v) {u:Nat} (hu:A.st u=1):A.g v+h v≤A.g u+h u:=by
 have:=hb.2 u hu
 have hn: ¬bP (kOf W h A u) (kOf W h A v)=true:=by rw[this];simp
 rw[lessB_iff]at hn
 unfold kOf at hn
 simp only at hn
 omega
theorem qP (I:SInv G D s A (fun _ _=>False)) (F:IsFar G s D) (hn:G.n≤1000000) {h:Nat→Int} (hg:oO G h) {W:Int} {v:Nat} (hb:eL W h A v):A.g v=D v∧D v<aJ:=by
 have hv:A.st v≠0:=by have:=hb.1;omega
 have h1:=I.lo v hv
 have h2:=I.bd v hv
 have h3:=I.few
 have e:aJ=18446744073709551615:=rfl
 have hf:D v<aJ:=by omega
 have hnn:=F.nn v
 obtain⟨x,x1,x2,x3⟩:=aAl I F hg (D v).toNat v (by omega) hf (by have:=hb.1;omega)
 have:=aCh hb x1
 exact⟨by omega,hf⟩
theorem rZ (I:SInv G D s A (fun _ _=>False)) {v:Nat} (h1:A.st v=1) (hg:A.g v=D v):SInv G D s (A.settle v) (fun u m=>u=v∧m∈G.adj v):=by
 have hst: ∀u,(A.settle v).st u=if u=v then 2 else A.st u:=fun u=>rfl
 have hnz: ∀u,(A.settle v).st u≠0→A.st u≠0:=fun u hu=>by
  rw[hst]at hu
  split at hu
  ·next e=>subst e;omega
  exact hu
 have h2: ∀u,A.st u=2→(A.settle v).st u=2:=fun u hu=>by rw[hst];split<;>omega
 refine⟨fun u=> ?_,fun u hu=>I.op u (hnz u hu),?_,I.sg,I.sc,fun u hu=> ?_,fun u hu=>I.lo u (hnz u hu),fun u hu=> ?_,fun u hu=> ?_,fun u hu hs=> ?_,fun u m hu ho ha hp=> ?_,?_⟩
 ·rw[hst];have:=I.two u;split<;>omega
 ·rw[hst];have:=I.s0;split<;>omega
 ·rw[hst]at hu
  split at hu
  ·next e=>subst e;exact hg
  exact I.opt u hu
 ·have:=I.bd u (hnz u hu)
  show 0≤A.g u∧A.g u≤65535*(A.cnt+1)
  omega
 ·show A.g u+65535≤65535*(A.cnt+1)
  rw[hst]at hu
  split at hu
  ·next e=>subst e;have:=I.bd u (by omega);omega
  have:=I.bd2 u hu;omega
 ·obtain⟨w,w1,w2,w3,w4⟩:=I.back u (hnz u hu) hs
  exact⟨w,w1,h2 w w2,w3,w4⟩
 ·rw[hst]at hu
  split at hu
  ·next e=>subst e;exact absurd ⟨rfl,ha⟩ hp
  obtain⟨r1,r2⟩:=I.reach u m hu ho ha (fun x=>x)
  refine⟨?_,r2⟩
  rw[hst]
  split<;>omega
 have hlt:=G.lt v (I.op v (by omega))
 have hc:=I.cnt
 have hcount: ∀l:List Nat,l.Nodup→l.countP (fun u=>decide ((A.settle v).st u=2))=l.countP (fun u=>decide (A.st u=2))+if v∈l then 1 else 0:=by
  intro l
  induction l with
  |nil=>intro _;rfl
  |cons a l ih=>
   intro hnd
   obtain⟨n1,n2⟩:=List.nodup_cons.1 hnd
   rw[List.countP_cons,List.countP_cons,ih n2,hst]
   by_cases e:a=v
   ·subst e
    rw[if_pos rfl,if_neg n1,h1]
    simp
   have e2: ¬v=a:=fun h=>e h.symm
   rw[if_neg e]
   by_cases hm:v∈l
   ·rw[if_pos hm,if_pos (List.mem_cons_of_mem a hm)];omega
   have hm2: ¬v∈a::l:=fun h=>(List.mem_cons.1 h).elim e2 hm
   rw[if_neg hm,if_neg hm2];omega
 rw[hcount _ List.nodup_range,if_pos (List.mem_range.2 hlt)]
 show _=A.cnt+1
 push_cast
 omega
theorem aDb (I:SInv G D s A pend) (F:IsFar G s D) (hn:G.n≤1000000) {c m:Nat} (hc:A.st c=2) (hm:G.op m=true) (ha:m∈G.adj c):SInv G D s (rx G c A m) (fun u v=>pend u v∧ ¬(u=c∧v=m)):=by
 have hco:=I.op c (by omega)
 have hgc:=I.opt c hc
 have hpm:=G.pos m hm
 have htm:=G.top m hm
 have hb2:=I.bd2 c hc
 have hbc:=I.bd c (by omega)
 have hfew:=I.few
 have e:aJ=18446744073709551615:=rfl
 have hms:m≠s→D m≤D c+G.cost m:=fun hs=>F.near m hm hs c (G.sym m c hm hco ha) hco (by omega)
 have hDm:D m≤A.g c+G.cost m:=by
  by_cases hs:m=s
  ·subst hs;rw[F.start hm];omega
  have:=hms hs;omega
 unfold rx
 split
 ·next ht=>
  have hnot2:A.st m≠2:=by rcases ht with h|h<;>omega
  have hnots:m≠s:=fun hs=>by
   subst hs
   have h0:=I.s0
   have h1:=I.sg
   rcases ht with h|h
   ·exact h0 h
   omega
  have hst: ∀u,(A.put m (A.g c+G.cost m) c).st u=if u=m then 1 else A.st u:=fun u=>rfl
  have hg: ∀u,(A.put m (A.g c+G.cost m) c).g u=if u=m then A.g c+G.cost m else A.g u:=fun u=>rfl
  have hcm: ∀u,(A.put m (A.g c+G.cost m) c).came u=if u=m then(c:Int) else A.came u:=fun u=>rfl
  have hcne:c≠m:=fun h=>hnot2 (h▸hc)
  have h2: ∀u,(A.put m (A.g c+G.cost m) c).st u=2→A.st u=2∧u≠m:=fun u hu=>by
   rw[hst]at hu
   split at hu
   ·omega
   exact⟨hu,by assumption⟩
  refine⟨fun u=> ?_,fun u hu=> ?_,?_,?_,?_,fun u hu=> ?_,fun u hu=> ?_,fun u hu=> ?_,fun u hu=> ?_,fun u hu hs=> ?_,fun u v hu ho hav hp=> ?_,?_⟩
  ·rw[hst];have:=I.two u;split<;>omega
  ·rw[hst]at hu
   split at hu
   ·next h=>rw[h];exact hm
   exact I.op u hu
  ·rw[hst,if_neg (fun h=>hnots h.symm)];exact I.s0
  ·rw[hg,if_neg (fun h=>hnots h.symm)];exact I.sg
  ·rw[hcm,if_neg (fun h=>hnots h.symm)];exact I.sc
  ·obtain⟨k1,k2⟩:=h2 u hu
   rw[hg,if_neg k2];exact I.opt u k1
  ·rw[hst]at hu
   rw[hg]
   split
   ·next h=>rw[h];exact hDm
   next h=>rw[if_neg h]at hu;exact I.lo u hu
  ·rw[hst]at hu
   rw[hg]
   show _∧_≤65535*A.cnt
   split
   ·omega
   next h=>rw[if_neg h]at hu;exact I.bd u hu
  ·obtain⟨k1,k2⟩:=h2 u hu
   rw[hg,if_neg k2];exact I.bd2 u k1
  ·by_cases hum:u=m
   ·subst hum
    refine⟨c,by rw[hcm,if_pos rfl],by rw[hst,if_neg hcne];exact hc,ha,?_⟩
    rw[hg,if_pos rfl,hg,if_neg hcne]
   rw[hst,if_neg hum]at hu
   obtain⟨w,w1,w2,w3,w4⟩:=I.back u hu hs
   have hwm:w≠m:=fun h=>hnot2 (h▸w2)
   exact⟨w,by rw[hcm,if_neg hum];exact w1,by rw[hst,if_neg hwm];exact w2,w3,by rw[hg,if_neg hum,hg,if_neg hwm];exact w4⟩
  ·obtain⟨k1,k2⟩:=h2 u hu
   rw[hst,hg,hg,if_neg k2]
   by_cases hvm:v=m
   ·subst hvm
    rw[if_pos rfl,if_pos rfl]
    refine⟨by omega,?_⟩
    by_cases huc:u=c
    ·subst huc;exact Int.le_refl _
    obtain⟨r1,r2⟩:=I.reach u v k1 ho hav (fun h=>hp ⟨h,fun h'=>huc h'.1⟩)
    rcases ht with h|h
    ·exact absurd h r1
    omega
   rw[if_neg hvm,if_neg hvm]
   exact I.reach u v k1 ho hav (fun h=>hp ⟨h,fun h'=>hvm h'.2⟩)
  have:=I.cnt
  show _=A.cnt
  rw[←this]
  congr 1
  refine List.countP_congr fun u _=> ?_
  rw[hst]
  simp only[decide_eq_true_eq]
  split
  ·next h=>subst h;omega
  exact Iff.rfl
 next ht=>
 refine {I with reach:=fun u v hu ho hav hp=> ?_}
 by_cases hh:u=c∧v=m
 ·obtain⟨rfl,rfl⟩:=hh
  have h2:=I.two v
  have h0:A.st v≠0:=fun h=>ht (.inl h)
  refine⟨h0,?_⟩
  by_cases h1:A.st v=1
  ·have: ¬(A.g u+G.cost v<A.g v):=fun h=>ht (.inr ⟨h1,h⟩)
   omega
  rw[I.opt v (by omega)];exact hDm
 exact I.reach u v hu ho hav (fun h=>hp ⟨h,hh⟩)
theorem aK6 (I:SInv G D s A (fun _ _=>False)) (F:IsFar G s D) (hno: ∀v,A.st v≠1) {y:Nat} (hy:D y<aJ):A.st y=2:=by
 by_cases h:A.st y=2
 ·exact h
 obtain⟨x,x1,_⟩:=aAl I F (h:=fun _=>0) (fun _ _ _ _ _=>(by decide:(0:Int)≤0+1)) (D y).toNat y (by have:=F.nn y;omega) hy h
 exact absurd x1 (hno x)
end
structure HQ (K:Nat→fN) (A:AS) (ts:List aM):Prop where
 nodup:(ids ts).Nodup
 thing: ∀t,t∈ts→ ∃v:Nat,t=((v:Int),K v)∧A.st v=1
 fin: ∀v,A.st v=1→(v:Int)∈ids ts
variable {K K':Nat→fN} {A:AS} {ts ts':List aM}
theorem HQ.perm (Q:HQ K A ts) (h:ts'.Perm ts):HQ K A ts':=
 ⟨(kD h).nodup_iff.2 Q.nodup,fun t ht=>Q.thing t (h.mem_iff.1 ht),fun v hv=>(kD h).mem_iff.2 (Q.fin v hv)⟩
theorem HQ.ids_st (Q:HQ K A ts) {v:Nat} (h:(v:Int)∈ids ts):A.st v=1:=by
 obtain⟨t,ht,he⟩:=List.mem_map.1 h
 obtain⟨v',e,h1⟩:=Q.thing t ht
 rw[e]at he
 have:v'=v:=by simp only at he;omega
 rw[←this];exact h1
theorem HQ.few (Q:HQ K A ts) {n:Nat} (hn: ∀v,A.st v≠0→v<n):ts.length≤n:=by
 have h:(ids ts).length≤((List.range n).map fun v:Nat=>(v:Int)).length:=by
  refine nA Q.nodup fun t ht=> ?_
  obtain⟨x,hx,he⟩:=List.mem_map.1 ht
  obtain⟨v,e,h1⟩:=Q.thing x hx
  exact List.mem_map.2 ⟨v,List.mem_range.2 (hn v (by omega)),by rw[←he,e]⟩
 rw[dI]at h
 simpa using h
theorem HQ.push (Q:HQ K A ts) {m:Nat} {x c:Int} (h0:A.st m=0) (hK: ∀v,v≠m→K' v=K v) (hp:ts'.Perm (((m:Int),K' m)::ts)):HQ K' (A.put m x c) ts':=by
 have hnm:(m:Int)∉ids ts:=fun h=>by have:=Q.ids_st h;omega
 have hst: ∀u,(A.put m x c).st u=if u=m then 1 else A.st u:=fun u=>rfl
 refine HQ.perm (ts:=((m:Int),K' m)::ts) ⟨?_,fun t ht=> ?_,fun v hv=> ?_⟩ hp
 ·show((m:Int)::ids ts).Nodup
  exact List.nodup_cons.2 ⟨hnm,Q.nodup⟩
 ·rcases List.mem_cons.1 ht with rfl|ht
  ·exact⟨m,rfl,by rw[hst,if_pos rfl]⟩
  obtain⟨v,e,h1⟩:=Q.thing t ht
  have hvm:v≠m:=fun h=>by subst h;omega
  exact⟨v,by rw[hK v hvm];exact e,by rw[hst,if_neg hvm];exact h1⟩
 rw[hst]at hv
 show(v:Int)∈(m:Int)::ids ts
 by_cases e:v=m
 ·rw[e];exact List.mem_cons_self
 rw[if_neg e]at hv
 exact List.mem_cons_of_mem _ (Q.fin v hv)
theorem HQ.waits (Q:HQ K A ts) {m:Nat} (h1:A.st m=1): ∃k,k<ts.length∧tat ts k=((m:Int),K m):=by
 obtain⟨t,ht,he⟩:=List.mem_map.1 (Q.fin m h1)
 obtain⟨v',e,_⟩:=Q.thing t ht
 rw[e]at he
 have:v'=m:=by simp only at he;omega
 subst this
 obtain⟨k,hk,hkt⟩:=List.mem_iff_getElem.1 ht
 exact⟨k,hk,by rw[dP hk,hkt,e]⟩
theorem HQ.lower (Q:HQ K A ts) {m k:Nat} {x c:Int} (h1:A.st m=1) (hk:k<ts.length) (hat:tat ts k=((m:Int),K m)) (hK: ∀v,v≠m→K' v=K v) (hp:ts'.Perm (ts.set k ((m:Int),K' m))):HQ K' (A.put m x c) ts':=by
 have hst: ∀u,(A.put m x c).st u=if u=m then 1 else A.st u:=fun u=>rfl
 have hids:ids (ts.set k ((m:Int),K' m))=ids ts:=by
  unfold ids
  apply List.ext_getElem?
  intro j
  rw[List.getElem?_map,List.getElem?_map,List.getElem?_set]
  by_cases e:k=j
  ·subst e
   have:ts[k]=((m:Int),K m):=by rw[←dP hk];exact hat
   simp[hk,this]
  simp[e]
 refine HQ.perm (ts:=ts.set k ((m:Int),K' m)) ⟨by rw[hids];exact Q.nodup,fun t ht=> ?_,fun v hv=> ?_⟩ hp
 ·obtain⟨j,hj,he⟩:=List.mem_iff_getElem.1 ht
  have hj2:j<ts.length:=by rw[List.length_set]at hj;exact hj
  rw[List.getElem_set]at he
  split at he
  ·exact⟨m,he.symm,by rw[hst,if_pos rfl]⟩
  next hkj=>
  obtain⟨v,e,h2⟩:=Q.thing t (he▸List.getElem_mem hj2)
  have hvm:v≠m:=fun h=>hkj (by
   subst h
   have a1:(ids ts)[k]'(by rw[dI];exact hk)=(v:Int):=by
    have:=dH hk
    rw[hat]at this
    exact(zJ this).2
   have a2:(ids ts)[j]'(by rw[dI];exact hj2)=(v:Int):=by
    have:=dH hj2
    rw[dP hj2,he,e]at this
    exact(zJ this).2
   exact(List.getElem_inj (h₀:=by rw[dI];exact hk) (h₁:=by rw[dI];exact hj2) Q.nodup).1 (a1.trans a2.symm))
  exact⟨v,by rw[hK v hvm];exact e,by rw[hst,if_neg hvm];exact h2⟩
 rw[hids]
 rw[hst]at hv
 by_cases e:v=m
 ·rw[e];exact Q.fin m h1
 rw[if_neg e]at hv
 exact Q.fin v hv
theorem HQ.pop (Q:HQ K A ts) (ho:dL ts) (hp:(tat ts 0::ts').Perm ts): ∃v:Nat,tat ts 0=((v:Int),K v)∧A.st v=1∧(∀u,A.st u=1→bP (K u) (K v)=false)∧HQ K (A.settle v) ts':=by
 have Q2:=Q.perm hp
 obtain⟨v,e,h1⟩:=Q2.thing _ List.mem_cons_self
 have hnd:(ids (tat ts 0::ts')).Nodup:=Q2.nodup
 have hnd2:((v:Int)::ids ts').Nodup:=by
  have:ids (tat ts 0::ts')=(v:Int)::ids ts':=by rw[e];rfl
  rw[←this];exact hnd
 obtain⟨hnv,hnd3⟩:=List.nodup_cons.1 hnd2
 have hst: ∀u,(A.settle v).st u=if u=v then 2 else A.st u:=fun u=>rfl
 refine⟨v,e,h1,fun u hu=> ?_,hnd3,fun t ht=> ?_,fun u hu=> ?_⟩
 ·obtain⟨k,hk,hat⟩:=Q.waits hu
  have hle:=zH ho k hk
  rw[hat,e]at hle
  have:=le_iff.1 hle
  cases hl:bP (K u) (K v)
  ·rfl
  rw[lessB_iff]at hl
  exfalso
  apply this
  simp only
  omega
 ·obtain⟨u,e2,h2⟩:=Q2.thing t (List.mem_cons_of_mem _ ht)
  have huv:u≠v:=fun h=>hnv (by subst h;exact List.mem_map.2 ⟨t,ht,by rw[e2]⟩)
  exact⟨u,e2,by rw[hst,if_neg huv];exact h2⟩
 rw[hst]at hu
 by_cases h:u=v
 ·rw[if_pos h]at hu;omega
 rw[if_neg h]at hu
 have h3:=Q2.fin u hu
 have:ids (tat ts 0::ts')=(v:Int)::ids ts':=by rw[e];rfl
 rw[this]at h3
 exact(List.mem_cons.1 h3).resolve_left (fun h4=>h (by omega))
end Go.Proofs.YtaellcgglldjaaaGreat

namespace Go.Proofs.YtaellcgglldjaaaGreat

theorem wE (a:fN):bP a a=false:=by
 cases h:bP a a
 ·rfl
 rw[lessB_iff]at h;omega
theorem aGx {a b c:fN} (h:bP a b=true) (k:bP c b=false):bP c a=false:=by
 cases l:bP c a
 ·rfl
 have:bP c b=true:=by rw[lessB_iff]at h l⊢;omega
 rw[this]at k;cases k
def gO (W:Int) (h:Nat→Int) (A:AS):Nat→Option Nat
 |0=>none
 |i+1=>match gO W h A i with
  |none=>if A.st i=1 then some i else none
  |some j=>if A.st i=1∧bP (kOf W h A i) (kOf W h A j)=true then some i else some j
theorem oQ {W:Int} {h:Nat→Int} {A:AS}: ∀{n:Nat},gO W h A n=none→ ∀v,v<n→A.st v≠1
 |0,_=>fun v hv=>absurd hv (Nat.not_lt_zero v)
 |i+1,hb=>fun v hv=>by
  unfold gO at hb
  cases hj:gO W h A i
  ·rw[hj]at hb
   simp only at hb
   split at hb
   ·cases hb
   next h1=>
   by_cases e:v=i
   ·rw[e];exact h1
   exact oQ hj v (by omega)
  rw[hj]at hb
  simp only at hb
  split at hb<;>cases hb
theorem jH {W:Int} {h:Nat→Int} {A:AS}: ∀{n j:Nat},gO W h A n=some j→j<n∧A.st j=1∧ ∀v,v<n→A.st v=1→bP (kOf W h A v) (kOf W h A j)=false
 |0,_,hb=>by cases hb
 |i+1,j,hb=>by
  unfold gO at hb
  cases hj:gO W h A i
  ·rw[hj]at hb
   simp only at hb
   have hno:=oQ hj
   split at hb
   ·next h1=>
    cases hb
    refine⟨by omega,h1,fun v hv hv1=> ?_⟩
    by_cases e:v=i
    ·rw[e];exact wE _
    exact absurd hv1 (hno v (by omega))
   cases hb
  rename_i m
  rw[hj]at hb
  simp only at hb
  obtain⟨m1,m2,m3⟩:=jH hj
  split at hb
  ·next h1=>
   cases hb
   refine⟨by omega,h1.1,fun v hv hv1=> ?_⟩
   by_cases e:v=i
   ·rw[e];exact wE _
   exact aGx h1.2 (m3 v (by omega) hv1)
  next h1=>
  cases hb
  refine⟨by omega,m2,fun v hv hv1=> ?_⟩
  by_cases e:v=i
  ·rw[e]at hv1⊢
   cases k:bP (kOf W h A i) (kOf W h A j)
   ·rfl
   exact absurd ⟨hv1,k⟩ h1
  exact m3 v (by omega) hv1
theorem aDn {G:Net} {W:Int} {h:Nat→Int} {A:AS} {v:Nat} (hb:gO W h A G.n=some v) (hlt: ∀u,A.st u=1→u<G.n):eL W h A v:=
 ⟨(jH hb).2.1,fun u hu=>(jH hb).2.2 u (hlt u hu) hu⟩
def kV (came:Nat→Int):Nat→Nat→Option (List Nat)
 |0,_=>none
 |k+1,v=>if came v<0 then some [v] else(kV came k (came v).toNat).map (v:: ·)
theorem pV {came:Nat→Int}: ∀{k v:Nat} {l:List Nat},kV came k v=some l→Chain came v l
 |0,_,_,h=>by cases h
 |k+1,v,l,h=>by
  unfold kV at h
  split at h
  ·next h0=>cases h;exact .stop h0
  next h0=>
  cases hc:kV came k (came v).toNat
  ·rw[hc]at h;cases h
  rw[hc]at h
  cases h
  exact .go (by omega) (pV hc)
def aK3 (G:Net) (W:Int) (h:Nat→Int) (t:Nat) (b:Int):Nat→AS→Option (List Nat×Int×Int×Int)
 |0,_=>none
 |k+1,A=>match gO W h A G.n with
  |none=>some ([],0,A.cnt,22)
  |some v=>if A.cnt=b then some ([],0,A.cnt,23) else if v=t then(kV A.came (G.n+1) t).map (fun l=>(l.reverse,A.g t,A.cnt+1,0)) else aK3 G W h t b k (kQ G A v)
theorem aN0 (G:Net) (c:Nat) (A:AS) (m u:Nat):(rx G c A m).st u=A.st u∨(u=m∧(rx G c A m).st u=1∧A.st u≠2):=by
 unfold rx
 split
 ·next h=>
  by_cases e:u=m
  ·subst e;right;exact⟨rfl,cC _ _ _,by rcases h with h|h<;>omega⟩
  left;exact fA _ _ e
 left;rfl
theorem aN6 (G:Net) (c:Nat) (A:AS) (m:Nat):(rx G c A m).cnt=A.cnt:=by
 unfold rx;split<;>rfl
theorem aKm (G:Net) (c:Nat) (A:AS) (m u:Nat) (h:A.st u=2):(rx G c A m).st u=2∧(rx G c A m).g u=A.g u∧(rx G c A m).came u=A.came u:=by
 unfold rx
 split
 ·next k=>
  have hne:u≠m:=fun e=>by subst e;rcases k with k|k<;>omega
  exact⟨(fA _ _ hne).trans h,gZ _ _ hne,gZ _ _ hne⟩
 exact⟨h,rfl,rfl⟩
theorem aHp (G:Net) (c:Nat): ∀(l:List Nat) (A:AS) (u:Nat),(rxs G c A l).st u=A.st u∨(u∈l∧(rxs G c A l).st u=1∧A.st u≠2)
 |[],_,_=> .inl rfl
 |m::l,A,u=>by
  show(rxs G c (rx G c A m) l).st u=_∨_∧(rxs G c (rx G c A m) l).st u=1∧_
  rcases aHp G c l (rx G c A m) u with h|⟨h1,h2,h3⟩
  ·rcases aN0 G c A m u with k|⟨k1,k2,k3⟩
   ·exact .inl (h.trans k)
   exact .inr ⟨k1▸List.mem_cons_self,h.trans k2,k3⟩
  refine .inr ⟨List.mem_cons_of_mem _ h1,h2,fun e=> ?_⟩
  exact h3 (aKm G c A m u e).1
theorem aKn (G:Net) (c:Nat): ∀(l:List Nat) (A:AS),(rxs G c A l).cnt=A.cnt
 |[],_=>rfl
 |m::l,A=>(aKn G c l (rx G c A m)).trans (aN6 G c A m)
theorem aAm (G:Net) (A:AS) (v u:Nat):(u=v∧A.st v≠2→(kQ G A v).st u=2)∧((kQ G A v).st u=2→u=v∨A.st u=2)∧((kQ G A v).st u=1→A.st u=1∨u∈G.adj v):=by
 have hst: ∀x,(A.settle v).st x=if x=v then 2 else A.st x:=fun x=>rfl
 have h:=aHp G v (G.adj v) (A.settle v) u
 rw[hst]at h
 refine⟨fun e=> ?_,fun e=> ?_,fun e=> ?_⟩
 ·rcases h with h|h
  ·exact h.trans (if_pos e.1)
  rw[if_pos e.1]at h;exact absurd rfl h.2.2
 ·rcases h with h|h
  ·by_cases k:u=v
   ·exact .inl k
   rw[if_neg k]at h;exact .inr (h.symm.trans e)
  have:=h.2.1
  have:(kQ G A v).st u=1:=this
  omega
 rcases h with h|h
 ·by_cases k:u=v
  ·rw[if_pos k]at h;have:(kQ G A v).st u=2:=h;omega
  rw[if_neg k]at h;exact .inl (h.symm.trans e)
 exact .inr h.1
theorem aLu (G:Net) (A:AS) (v:Nat):(kQ G A v).cnt=A.cnt+1:=aKn G v _ _
theorem aDa {G:Net} {W:Int} {h:Nat→Int} {t:Nat} {b:Int} (hadj: ∀v m,m∈G.adj v→m<G.n): ∀{k:Nat} {A:AS} {p:List Nat} {c n e:Int},(∀u,A.st u=1→u<G.n)→aK3 G W h t b k A=some (p,c,n,e)→ARun G W h t b A p c n e
 |0,_,_,_,_,_,_,hr=>by cases hr
 |k+1,A,p,c,n,e,hlt,hr=>by
  unfold aK3 at hr
  cases hb:gO W h A G.n
  ·rw[hb]at hr
   cases hr
   exact .none fun v hv=>oQ hb v (hlt v hv) hv
  rename_i v
  rw[hb]at hr
  simp only at hr
  have hB:=aDn (G:=G) hb hlt
  split at hr
  ·next h1=>cases hr;exact .full v hB.1 h1
  next h1=>
  split at hr
  ·next h2=>
   subst h2
   cases hc:kV A.came (G.n+1) v
   ·rw[hc]at hr;cases hr
   rw[hc]at hr
   cases hr
   exact .found hB h1 (pV hc)
  next h2=>
  refine .next hB h1 h2 (aDa hadj (fun u hu=> ?_) hr)
  rcases (aAm G A v u).2.2 hu with k|k
  ·exact hlt u k
  exact hadj v u k
section
variable {G:Net} {D:Nat→Int} {s:Nat} {A:AS} {pend:Nat→Nat→Prop}
theorem aAk (F:IsFar G s D) (hn:G.n≤1000000) {c:Nat}: ∀(l:List Nat) {A:AS} {pend:Nat→Nat→Prop},SInv G D s A pend→A.st c=2→(∀m,m∈l→G.op m=true∧m∈G.adj c)→SInv G D s (rxs G c A l) (fun u v=>pend u v∧ ¬(u=c∧v∈l))
 |[],A,pend,I,_,_=>I.weaken fun _ _ _ _ h=>⟨h,fun k=>by cases k.2⟩
 |m::l,A,pend,I,hc,hl=>by
  have hm:=hl m List.mem_cons_self
  have I2:=aDb I F hn hc hm.1 hm.2
  refine(aAk F hn l I2 (aKm G c A m c hc).1 (fun x hx=>hl x (List.mem_cons_of_mem _ hx))).weaken fun u v _ _ h=>⟨h.1.1,fun k=> ?_⟩
  rcases List.mem_cons.1 k.2 with e|e
  ·exact h.1.2 ⟨k.1,e⟩
  exact h.2 ⟨k.1,e⟩
theorem aHw (I:SInv G D s A (fun _ _=>False)) (F:IsFar G s D) (hn:G.n≤1000000) {h:Nat→Int} (hg:oO G h) (hadj: ∀v m,m∈G.adj v→G.op m=true) {W:Int} {v:Nat} (hb:eL W h A v):SInv G D s (kQ G A v) (fun _ _=>False):=by
 have I1:=rZ I hb.1 (qP I F hn hg hb).1
 have h2:(A.settle v).st v=2:=cC _ _ _
 exact(aAk F hn (G.adj v) I1 h2 (fun m hm=>⟨hadj v m hm,hm⟩)).weaken fun u x _ _ k=>k.2 k.1
theorem aFu (I:SInv G D s A pend) {K:Net} {v:Nat} {l:List Nat} (hc:Chain A.came v l):A.st v≠0→(∀u,u∈l→K.op u=true∧K.cost u=G.cost u)→(∀u x,u∈l→x∈l→x∈G.adj u→x∈K.adj u)→Way K s v (A.g v):=by
 induction hc with
 |stop h0=>
  rename_i v
  intro hv h1 _
  by_cases e:v=s
  ·subst e
   rw[I.sg]
   exact .start (h1 v List.mem_cons_self).1
  obtain⟨u,hu,_⟩:=I.back v hv e
  omega
 |go h0 hcc ih=>
  rename_i v u l
  intro hv h1 h2
  by_cases e:v=s
  ·subst e
   have:=I.sc
   omega
  obtain⟨u',hu,k1,k2,k3⟩:=I.back v hv e
  have:u'=u:=by omega
  subst this
  have hmu:u'∈l:=by cases hcc<;>exact List.mem_cons_self
  have hw:=ih (by omega) (fun x hx=>h1 x (List.mem_cons_of_mem _ hx)) (fun x y hx hy=>h2 x y (List.mem_cons_of_mem _ hx) (List.mem_cons_of_mem _ hy))
  have ha:=h2 u' v (List.mem_cons_of_mem _ hmu) List.mem_cons_self k2
  have ho:=h1 v List.mem_cons_self
  have hou:=h1 u' (List.mem_cons_of_mem _ hmu)
  refine(Way.step hw (K.sym v u' ho.1 hou.1 ha) ho.1).cast ?_
  rw[ho.2];exact k3.symm
end
theorem aLr {G:Net} {W:Int} {h:Nat→Int} {t:Nat} {b:Int} {A:AS} {p:List Nat} {c k e:Int} (r:ARun G W h t b A p c k e):A.cnt≤k:=by
 induction r with
 |none _=>exact Int.le_refl _
 |full _ _ _=>exact Int.le_refl _
 |found _ _ _=>omega
 |next _ _ _ _ ih=>rw[aLu]at ih;omega
structure aKh (G:Net) (D:Nat→Int) (s t:Nat) (p:List Nat) (c:Int):Prop where
 cost:c=D t
 fin:D t<aJ
 way: ∀K:Net,(∀u,u∈p→K.op u=true∧K.cost u=G.cost u)→(∀u x,u∈p→x∈p→x∈G.adj u→x∈K.adj u)→Way K s t c
theorem aLs {G:Net} {W:Int} {h:Nat→Int} {t s:Nat} {b:Int} {A:AS} {D:Nat→Int} {p:List Nat} {c k e:Int} (r:ARun G W h t b A p c k e) (I:SInv G D s A (fun _ _=>False)) (F:IsFar G s D) (hn:G.n≤1000000) (hg:oO G h) (hadj: ∀v m,m∈G.adj v→G.op m=true) (ht:A.st t≠2):k≤G.n∧((e=0∧aKh G D s t p c)∨(e=22∧D t=aJ∧p=[]∧c=0)∨(e=23∧p=[]∧c=0∧k=b∧b<G.n)):=by
 induction r with
 |none h0=>
  have hf:=I.few
  refine⟨hf.2, .inr (.inl ⟨rfl,?_,rfl,rfl⟩)⟩
  by_cases hD:D t<aJ
  ·exact absurd (aK6 I F h0 hD) ht
  have:=F.le t;omega
 |full v hv hc=>
  have:=I.opens hv
  exact⟨by omega, .inr (.inr ⟨rfl,rfl,rfl,hc,by omega⟩)⟩
 |found hB hb hc=>
  rename_i A l
  have h1:=qP I F hn hg hB
  have h2:=I.opens hB.1
  refine⟨by omega, .inl ⟨rfl,h1.1,by omega,fun K k1 k2=> ?_⟩⟩
  exact aFu I hc (by have:=hB.1;omega) (fun u hu=>k1 u (List.mem_reverse.2 hu)) (fun u x hu hx=>k2 u x (List.mem_reverse.2 hu) (List.mem_reverse.2 hx))
 |next hB hb hv r ih=>
  rename_i A v p c k e
  refine ih (aHw I F hn hg hadj hB) fun h2=> ?_
  rcases (aAm G A v t).2.1 h2 with k|k
  ·exact hv k.symm
  exact ht k
end Go.Proofs.YtaellcgglldjaaaGreat

