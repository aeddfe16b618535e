/- Part of a proof: HierQ StarP. -/
import Derived.Test.YtaellcgglldjaaaGreatHq10
import Derived.Test.YtaellcgglldjaaaGreatHq18
import Derived.Test.YtaellcgglldjaaaGreatHq09
import Derived.Test.YtaellcgglldjaaaGreatHq07
set_option linter.all false
set_option linter.unusedVariables false
set_option linter.unusedSimpArgs false
namespace Go.Proofs.YtaellcgglldjaaaGreat
open Go.RowKit
theorem aLa {a b:aB} (h:ltC a b):a≠b:=by
 rintro rfl
 unfold ltC at h
 omega
theorem pL {l:List aB} (h:l.Pairwise ltC):l.Nodup:=h.imp aLa
theorem uE {α:Type} [DecidableEq α]: ∀{l l':List α},l.Nodup→(∀c∈l,c∈l')→l.length≤l'.length
 |[],_,_,_=>Nat.zero_le _
 |a::l,l',hn,hs=>by
  obtain⟨h1,h2⟩:=List.nodup_cons.1 hn
  have ha:=hs a (by simp)
  have h3:l.length≤(l'.erase a).length:=uE h2 (fun c hc=>(List.mem_erase_of_ne (fun e=>by rw[e]at hc;exact h1 hc)).2 (hs c (by simp[hc])))
  rw[List.length_erase_of_mem ha]at h3
  have:=List.length_pos_of_mem ha
  rw[List.length_cons]
  omega
theorem aKp {α:Type} [DecidableEq α] {l l':List α} (hn:l.Nodup) (hs: ∀c∈l,c∈l') (hl:l'.length≤l.length): ∀c∈l',c∈l:=fun c hc=>by
 refine Classical.byContradiction fun h=> ?_
 have h1:=uE (l:=c::l) (List.nodup_cons.2 ⟨h,hn⟩) (fun x hx=>by
  rcases List.mem_cons.1 hx with rfl|hx
  ·exact hc
  ·exact hs x hx)
 rw[List.length_cons]at h1
 omega
def inC (W H s:Int) (G:List (aB×aB)) (f t:aB) (id:Int):List aB:=(cE W H G f t).filter fun c=>decide (ofN W s c.1 c.2=id)
theorem kU (W H s:Int) (G:List (aB×aB)) (f t:aB) (id:Int):(inC W H s G f t id).Pairwise ltC:=(vZ W H G f t).filter _
theorem nA {W H s:Int} (hm:bM W H=true) {G:List (aB×aB)} {f t:aB} {id:Int} {c:aB}:c∈inC W H s G f t id↔(inB W H c.1 c.2=true∧ofN W s c.1 c.2=id)∧(c=f∨c=t∨gIn G c=true):=by
 unfold inC
 rw[List.mem_filter,nodesL_mem,decide_eq_true_eq]
 have h:=mayB_true.1 hm
 constructor
 ·rintro⟨⟨h1,h2⟩,h3⟩
  exact⟨⟨inB_true.2 (by omega),h3⟩,h2⟩
 ·rintro⟨⟨h1,h3⟩,h2⟩
  have:=inB_true.1 h1
  exact⟨⟨by omega,h2⟩,h3⟩
theorem aL7 {W H s:Int} {l:List Int} (g:Good W H s l) {f t:aB} {id:Int} (hid:0≤id∧id<cnt W H s) (hf:inB W H f.1 f.2=true) (ht:inB W H t.1 t.2=true) {L:List aB} (hs:L.Pairwise ltC)
  (hm: ∀c,c∈L↔c∈bN W H s l id∨(c=f∧ofN W s f.1 f.2=id)∨(c=t∧ofN W s t.1 t.2=id)):L=inC W H s (aI W H s l) f t id:=by
 refine gM hs (kU _ _ _ _ _ _ _) fun c=> ?_
 rw[hm,nA (checkE_ok.1 g.ok).1]
 unfold bN
 rw[fT g.right hid.1 hid.2]
 unfold inK
 constructor
 ·rintro(⟨⟨h1,h2⟩,h3⟩|⟨rfl,h⟩|⟨rfl,h⟩)
  ·exact⟨⟨h1,h2⟩, .inr (.inr h3)⟩
  ·exact⟨⟨hf,h⟩, .inl rfl⟩
  ·exact⟨⟨ht,h⟩, .inr (.inl rfl)⟩
 ·rintro⟨⟨h1,h2⟩,rfl|rfl|h3⟩
  ·exact .inr (.inl ⟨rfl,h2⟩)
  ·exact .inr (.inr ⟨rfl,h2⟩)
  ·exact .inl ⟨⟨h1,h2⟩,h3⟩
theorem aBj {W H s:Int} {l:List Int} (g:Good W H s l) {f t:aB} {id:Int} (hid:0≤id∧id<cnt W H s): ∀c∈bN W H s l id,c∈inC W H s (aI W H s l) f t id:=fun c hc=>by
 unfold bN at hc
 rw[fT g.right hid.1 hid.2]at hc
 exact(nA (checkE_ok.1 g.ok).1).2 ⟨hc.1, .inr (.inr hc.2)⟩
theorem aL0 {W H s:Int} {l:List Int} (g:Good W H s l) {f t:aB} {id:Int} (hid:0≤id∧id<cnt W H s) (hl:(inC W H s (aI W H s l) f t id).length=(bN W H s l id).length):inC W H s (aI W H s l) f t id=bN W H s l id:=by
 have hc:(bN W H s l id).Pairwise ltC:=kL _ _ _ _ _
 exact gM (kU _ _ _ _ _ _ _) hc fun c=>⟨aKp (pL hc) (aBj g hid) (by omega) c,aBj g hid c⟩
theorem tS {W H s:Int} {l:List Int} (g:Good W H s l) {f t:aB} {id:Int} (hid:0≤id∧id<cnt W H s):(inC W H s (aI W H s l) f t id).length≤258:=by
 have h1:=wZ (l:=l) g hid
 have h2:=uE (l:=inC W H s (aI W H s l) f t id) (l':=f::t::bN W H s l id) (pL (kU _ _ _ _ _ _ _)) (fun c hc=>by
  obtain⟨⟨h1,h2⟩,h3⟩:=(nA (checkE_ok.1 g.ok).1).1 hc
  rcases h3 with rfl|rfl|h3
  ·simp
  ·simp
  ·have:c∈bN W H s l id:=by unfold bN;rw[fT g.right hid.1 hid.2];exact⟨⟨h1,h2⟩,h3⟩
   simp[this])
 simp only[List.length_cons]at h2
 omega
theorem aL8 {W H s:Int} {l:List Int} (g:Good W H s l) {f t:aB} {id:Int} (hid:0≤id∧id<cnt W H s):dC W H l.length W H s id (inC W H s (aI W H s l) f t id)=0:=by
 refine innerE_ok.2 ⟨g.ok,rfl,rfl,g.right,hid,oS fun k hk=> ?_⟩
 have hst:=kU W H s (aI W H s l) f t id
 have hmem: ∀c∈inC W H s (aI W H s l) f t id,eB W H s id c=true:=fun c hc=>by
  obtain⟨⟨h1,h2⟩,_⟩:=(nA (checkE_ok.1 g.ok).1).1 hc
  unfold eB
  rw[h1,h2]
  simp
 generalize inC W H s (aI W H s l) f t id=C at *
 have hin:=hmem _ (List.getElem_mem hk)
 unfold bW
 have e:C.getD k (0,0)=C[k]:=by simp[List.getD_eq_getElem?_getD,hk]
 rw[e,if_neg (by rw[hin];simp)]
 rw[if_neg]
 rintro⟨h0,hr⟩
 have e2:C.getD (k-1) (0,0)=C[k-1]:=by
  have:k-1<C.length:=by omega
  simp[List.getD_eq_getElem?_getD,this]
 rw[e2]at hr
 have hlt:=List.pairwise_iff_getElem.1 hst (k-1) k (by omega) hk (by omega)
 unfold ltC at hlt
 unfold mG at hr
 simp at hr
 omega
theorem xJ {W H s:Int} {l:List Int} {a:aB} (L:cT W H s (ofN W s a.1 a.2) l) (cs:List aB):jC L cs a=cs.map (cI W H s l a):=by
 unfold jC
 refine List.map_congr_left fun q _=> ?_
 unfold cI
 rw[dif_pos L]
end Go.Proofs.YtaellcgglldjaaaGreat

namespace Go.Proofs.YtaellcgglldjaaaGreat

structure AS where
 st:Nat→Nat
 g:Nat→Int
 came:Nat→Int
 cnt:Int
def bK (f:Nat→Nat) (j:Nat) (x:Nat) (v:Nat):Nat:=if v=j then x else f v
theorem bH (f:Nat→Nat) (j:Nat) (x:Nat):bK f j x j=x:=if_pos rfl
theorem gC (f:Nat→Nat) {j v:Nat} (x:Nat) (h:v≠j):bK f j x v=f v:=if_neg h
def jG (f:Nat→Int) (j:Nat) (x:Int) (v:Nat):Int:=if v=j then x else f v
theorem pM (f:Nat→Int) (j:Nat) (x:Int):jG f j x j=x:=if_pos rfl
theorem gB (f:Nat→Int) {j v:Nat} (x:Int) (h:v≠j):jG f j x v=f v:=if_neg h
def AS.put (A:AS) (m:Nat) (x:Int) (c:Int):AS:={A with st:=bK A.st m 1,g:=jG A.g m x,came:=jG A.came m c}
def AS.takes (A:AS) (m:Nat) (x:Int):Prop:=A.st m=0∨A.st m=1∧x<A.g m
instance (A:AS) (m:Nat) (x:Int):Decidable (A.takes m x):=by unfold AS.takes;exact inferInstance
def rx (G:Net) (c:Nat) (A:AS) (m:Nat):AS:=if A.takes m (A.g c+G.cost m) then A.put m (A.g c+G.cost m) c else A
def rxs (G:Net) (c:Nat) (A:AS) (l:List Nat):AS:=l.foldl (rx G c) A
def AS.settle (A:AS) (v:Nat):AS:={A with st:=bK A.st v 2,cnt:=A.cnt+1}
def jO (G:Net) (A:AS) (v:Nat):AS:=rxs G v (A.settle v) (G.adj v)
def kOf (W:Int) (h:Nat→Int) (A:AS) (v:Nat):fC:=((A.g v+h v,h v),(vy W v,vx W v))
def dA (W:Int) (h:Nat→Int) (A:AS) (v:Nat):Prop:=A.st v=1∧ ∀u,A.st u=1→bE (kOf W h A u) (kOf W h A v)=false
inductive Chain (came:Nat→Int):Nat→List Nat→Prop where
 |stop {v:Nat}:came v<0→Chain came v [v]
 |go {v u:Nat} {l:List Nat}:came v=(u:Int)→Chain came u l→Chain came v (v::l)
inductive ARun (G:Net) (W:Int) (h:Nat→Int) (t:Nat) (b:Int):AS→List Nat→Int→Int→Int→Prop where
 |none {A:AS}:(∀v,A.st v≠1)→ARun G W h t b A [] 0 A.cnt 22
 |full {A:AS} (v:Nat):A.st v=1→A.cnt=b→ARun G W h t b A [] 0 A.cnt 23
 |found {A:AS} {l:List Nat}:dA W h A t→A.cnt≠b→Chain A.came t l→ARun G W h t b A l.reverse (A.g t) (A.cnt+1) 0
 |next {A:AS} {v:Nat} {p:List Nat} {c n e:Int}:dA W h A v→A.cnt≠b→v≠t→ARun G W h t b (jO G A v) p c n e→ARun G W h t b A p c n e
def aV (s:Nat):AS:={st:=bK (fun _=>0) s 1,g:=fun _=>0,came:=jG (fun _=>0) s (-1),cnt:=0}
theorem Chain.one {came:Nat→Int} {v:Nat} {l m:List Nat} (h:Chain came v l):Chain came v m→l=m:=by
 induction h generalizing m with
 |stop h0=>
  intro k
  cases k with
  |stop _=>rfl
  |go h1 _=>omega
 |go h0 _ ih=>
  intro k
  cases k with
  |stop h1=>omega
  |go h1 h2=>
   have:_=_:=Int.ofNat.inj (h0.symm.trans h1)
   subst this
   rw[ih h2]
theorem iU {W:Int} (hW:1≤W) {h:Nat→Int} {A:AS} {u v:Nat} (hu:dA W h A u) (hv:dA W h A v):u=v:=by
 have h1:=hu.2 v hv.1
 have h2:=hv.2 u hu.1
 have n1: ¬bE (kOf W h A v) (kOf W h A u)=true:=by rw[h1];simp
 have n2: ¬bE (kOf W h A u) (kOf W h A v)=true:=by rw[h2];simp
 rw[lessB_iff]at n1 n2
 unfold kOf at n1 n2
 simp only at n1 n2
 have hy:vy W u=vy W v:=by omega
 have hx:vx W u=vx W v:=by omega
 rw[←dZ hW u,←dZ hW v,hx,hy]
theorem ARun.one {G:Net} {W:Int} (hW:1≤W) {h:Nat→Int} {t:Nat} {b:Int} {A:AS} {p p':List Nat} {c c' n n' e e':Int} (r:ARun G W h t b A p c n e):ARun G W h t b A p' c' n' e'→p=p'∧c=c'∧n=n'∧e=e':=by
 induction r generalizing p' c' n' e' with
 |none h0=>
  intro k
  cases k with
  |none _=>exact⟨rfl,rfl,rfl,rfl⟩
  |full v hv _=>exact absurd hv (h0 v)
  |found hb _ _=>exact absurd hb.1 (h0 _)
  |next hb _ _ _=>exact absurd hb.1 (h0 _)
 |full v hv hc=>
  intro k
  cases k with
  |none h0=>exact absurd hv (h0 v)
  |full _ _ _=>exact⟨rfl,rfl,rfl,rfl⟩
  |found _ hn _=>exact absurd hc hn
  |next _ hn _ _=>exact absurd hc hn
 |found hb hn hc=>
  intro k
  cases k with
  |none h0=>exact absurd hb.1 (h0 _)
  |full _ _ h1=>exact absurd h1 hn
  |found _ _ hc'=>rw[hc.one hc'];exact⟨rfl,rfl,rfl,rfl⟩
  |next hb' _ hne _=>exact absurd (iU hW hb' hb) hne
 |next hb hn hne _ ih=>
  intro k
  cases k with
  |none h0=>exact absurd hb.1 (h0 _)
  |full _ _ h1=>exact absurd h1 hn
  |found hb' _ _=>exact absurd (iU hW hb hb') hne
  |next hb' _ _ r'=>
   have:=iU hW hb hb'
   subst this
   exact ih r'
structure SInv (G:Net) (D:Nat→Int) (s:Nat) (A:AS) (pend:Nat→Nat→Prop):Prop where
 two: ∀v,A.st v≤2
 op: ∀v,A.st v≠0→G.op v=true
 s0:A.st s≠0
 sg:A.g s=0
 sc:A.came s= -1
 opt: ∀v,A.st v=2→A.g v=D v
 lo: ∀v,A.st v≠0→D v≤A.g v
 bd: ∀v,A.st v≠0→0≤A.g v∧A.g v≤65535*A.cnt
 bd2: ∀v,A.st v=2→A.g v+65535≤65535*A.cnt
 back: ∀v,A.st v≠0→v≠s→ ∃u:Nat,A.came v=(u:Int)∧A.st u=2∧v∈G.adj u∧A.g v=A.g u+G.cost v
 reach: ∀u v,A.st u=2→G.op v=true→v∈G.adj u→ ¬pend u v→A.st v≠0∧A.g v≤A.g u+G.cost v
 cnt:((List.range G.n).countP (fun v=>decide (A.st v=2)):Int)=A.cnt
section
variable {G:Net} {D:Nat→Int} {s:Nat} {A:AS} {pend pend':Nat→Nat→Prop}
theorem SInv.weaken (I:SInv G D s A pend) (h: ∀u v,A.st u=2→v∈G.adj u→pend u v→pend' u v):SInv G D s A pend':=
 {I with reach:=fun u v hu ho ha hp=>I.reach u v hu ho ha fun k=>hp (h u v hu ha k)}
theorem SInv.few (I:SInv G D s A pend):0≤A.cnt∧A.cnt≤G.n:=by
 have h:=List.countP_le_length (p:=fun v=>decide (A.st v=2)) (l:=List.range G.n)
 rw[List.length_range]at h
 have:=I.cnt
 omega
theorem SInv.opens (I:SInv G D s A pend) {v:Nat} (hv:A.st v=1):A.cnt<G.n:=by
 have hlt:=G.lt v (I.op v (by omega))
 have hc:=I.cnt
 have h1:(List.range G.n).countP (fun v=>decide (A.st v=2))<(List.range G.n).countP (fun _=>true):=by
  have hm: ∀l:List Nat,v∈l→l.countP (fun v=>decide (A.st v=2))<l.countP (fun _=>true):=by
   intro l
   induction l with
   |nil=>intro h;cases h
   |cons a l ih=>
    intro h
    rw[List.countP_cons,List.countP_cons]
    have hle:l.countP (fun v=>decide (A.st v=2))≤l.countP (fun _=>true):=List.countP_mono_left fun _ _ _=>rfl
    by_cases e:v=a
    ·subst e;simp[hv];simp at hle;omega
    ·have:=ih ((List.mem_cons.1 h).resolve_left e)
     split<;>simp at * <;>omega
  exact hm _ (List.mem_range.2 hlt)
 rw[List.countP_true,List.length_range]at h1
 omega
theorem tC (hs:G.op s=true) (F:IsFar G s D):SInv G D s (aV s) (fun _ _=>False) where
 two v:=by unfold aV bK;simp only;split<;>omega
 op v hv:=by
  unfold aV bK at hv
  simp only at hv
  split at hv
  ·next e=>rw[e];exact hs
  ·exact absurd rfl hv
 s0:=by simp[aV,bK]
 sg:=rfl
 sc:=by simp[aV,jG]
 opt v hv:=by
  unfold aV bK at hv
  simp only at hv
  split at hv<;>omega
 lo v hv:=by
  unfold aV bK at hv
  simp only at hv
  split at hv
  ·next e=>rw[e,F.start hs];exact Int.le_refl _
  ·exact absurd rfl hv
 bd v _:=⟨Int.le_refl _,Int.le_refl _⟩
 bd2 v hv:=by
  unfold aV bK at hv
  simp only at hv
  split at hv<;>omega
 back v hv hn:=by
  unfold aV bK at hv
  simp only at hv
  split at hv
  ·next e=>exact absurd e hn
  ·exact absurd rfl hv
 reach u v hu:=by
  unfold aV bK at hu
  simp only at hu
  split at hu<;>omega
 cnt:=by
  have:(List.range G.n).countP (fun v=>decide ((aV s).st v=2))=0:=by
   rw[List.countP_eq_zero]
   intro v _
   unfold aV bK
   simp only[decide_eq_true_eq]
   split<;>omega
  rw[this];rfl
def nL (G:Net) (h:Nat→Int):Prop:= ∀u v,G.op u=true→G.op v=true→v∈G.adj u→h u≤h v+1
theorem zP (I:SInv G D s A (fun _ _=>False)) (F:IsFar G s D) {h:Nat→Int} (hg:nL G h): ∀(k:Nat) (y:Nat),D y=(k:Int)→D y<aE→A.st y≠2→ ∃x,A.st x=1∧A.g x=D x∧D x+h x≤D y+h y:=by
 intro k
 induction k using Nat.strongRecOn with
 |_ k ih=>
  intro y hy hf h2
  have ho:=F.open_ hf
  by_cases hs:y=s
  ·subst hs
   have h1:=I.two y
   have h3:=I.s0
   exact⟨y,by omega,by rw[I.sg,F.start ho],Int.le_refl _⟩
  ·obtain⟨u,hu,huo,he⟩:=F.from_ y ho hs hf
   have hc:=G.pos y ho
   have hn:=F.nn u
   have hgu:=hg u y huo ho (G.sym u y huo ho hu)
   by_cases hu2:A.st u=2
   ·obtain⟨r1,r2⟩:=I.reach u y hu2 ho (G.sym u y huo ho hu) (fun x=>x)
    have h1:=I.two y
    have h3:=I.lo y r1
    rw[I.opt u hu2]at r2
    exact⟨y,by omega,by omega,Int.le_refl _⟩
   ·obtain⟨x,x1,x2,x3⟩:=ih (D u).toNat (by omega) u (by omega) (by omega) hu2
    exact⟨x,x1,x2,by omega⟩
theorem tL {W:Int} {h:Nat→Int} {v:Nat} (hb:dA W h A v) {u:Nat} (hu:A.st u=1):A.g v+h v≤A.g u+h u:=by
 have:=hb.2 u hu
 have hn: ¬bE (kOf W h A u) (kOf W h A v)=true:=by rw[this];simp
 rw[lessB_iff]at hn
 unfold kOf at hn
 simp only at hn
 omega
theorem pI (I:SInv G D s A (fun _ _=>False)) (F:IsFar G s D) (hn:G.n≤1000000) {h:Nat→Int} (hg:nL G h) {W:Int} {v:Nat} (hb:dA W h A v):A.g v=D v∧D v<aE:=by
 have hv:A.st v≠0:=by have:=hb.1;omega
 have h1:=I.lo v hv
 have h2:=I.bd v hv
 have h3:=I.few
 have e:aE=18446744073709551615:=rfl
 have hf:D v<aE:=by omega
 have hnn:=F.nn v
 obtain⟨x,x1,x2,x3⟩:=zP I F hg (D v).toNat v (by omega) hf (by have:=hb.1;omega)
 have:=tL hb x1
 exact⟨by omega,hf⟩
theorem qS (I:SInv G D s A (fun _ _=>False)) {v:Nat} (h1:A.st v=1) (hg:A.g v=D v):SInv G D s (A.settle v) (fun u m=>u=v∧m∈G.adj v):=by
 have hst: ∀u,(A.settle v).st u=if u=v then 2 else A.st u:=fun u=>rfl
 have hnz: ∀u,(A.settle v).st u≠0→A.st u≠0:=fun u hu=>by
  rw[hst]at hu
  split at hu
  ·next e=>subst e;omega
  ·exact hu
 have h2: ∀u,A.st u=2→(A.settle v).st u=2:=fun u hu=>by rw[hst];split<;>omega
 refine⟨fun u=> ?_,fun u hu=>I.op u (hnz u hu),?_,I.sg,I.sc,fun u hu=> ?_,fun u hu=>I.lo u (hnz u hu),fun u hu=> ?_,fun u hu=> ?_,fun u hu hs=> ?_,fun u m hu ho ha hp=> ?_,?_⟩
 ·rw[hst];have:=I.two u;split<;>omega
 ·rw[hst];have:=I.s0;split<;>omega
 ·rw[hst]at hu
  split at hu
  ·next e=>subst e;exact hg
  ·exact I.opt u hu
 ·have:=I.bd u (hnz u hu)
  show 0≤A.g u∧A.g u≤65535*(A.cnt+1)
  omega
 ·show A.g u+65535≤65535*(A.cnt+1)
  rw[hst]at hu
  split at hu
  ·next e=>subst e;have:=I.bd u (by omega);omega
  ·have:=I.bd2 u hu;omega
 ·obtain⟨w,w1,w2,w3,w4⟩:=I.back u (hnz u hu) hs
  exact⟨w,w1,h2 w w2,w3,w4⟩
 ·rw[hst]at hu
  split at hu
  ·next e=>subst e;exact absurd ⟨rfl,ha⟩ hp
  ·obtain⟨r1,r2⟩:=I.reach u m hu ho ha (fun x=>x)
   refine⟨?_,r2⟩
   rw[hst]
   split<;>omega
 ·have hlt:=G.lt v (I.op v (by omega))
  have hc:=I.cnt
  have hcount: ∀l:List Nat,l.Nodup→l.countP (fun u=>decide ((A.settle v).st u=2))=l.countP (fun u=>decide (A.st u=2))+if v∈l then 1 else 0:=by
   intro l
   induction l with
   |nil=>intro _;rfl
   |cons a l ih=>
    intro hnd
    obtain⟨n1,n2⟩:=List.nodup_cons.1 hnd
    rw[List.countP_cons,List.countP_cons,ih n2,hst]
    by_cases e:a=v
    ·subst e
     rw[if_pos rfl,if_neg n1,h1]
     simp
    ·have e2: ¬v=a:=fun h=>e h.symm
     rw[if_neg e]
     by_cases hm:v∈l
     ·rw[if_pos hm,if_pos (List.mem_cons_of_mem a hm)];omega
     ·have hm2: ¬v∈a::l:=fun h=>(List.mem_cons.1 h).elim e2 hm
      rw[if_neg hm,if_neg hm2];omega
  rw[hcount _ List.nodup_range,if_pos (List.mem_range.2 hlt)]
  show _=A.cnt+1
  push_cast
  omega
theorem aC5 (I:SInv G D s A pend) (F:IsFar G s D) (hn:G.n≤1000000) {c m:Nat} (hc:A.st c=2) (hm:G.op m=true) (ha:m∈G.adj c):SInv G D s (rx G c A m) (fun u v=>pend u v∧ ¬(u=c∧v=m)):=by
 have hco:=I.op c (by omega)
 have hgc:=I.opt c hc
 have hpm:=G.pos m hm
 have htm:=G.top m hm
 have hb2:=I.bd2 c hc
 have hbc:=I.bd c (by omega)
 have hfew:=I.few
 have e:aE=18446744073709551615:=rfl
 have hms:m≠s→D m≤D c+G.cost m:=fun hs=>F.near m hm hs c (G.sym m c hm hco ha) hco (by omega)
 have hDm:D m≤A.g c+G.cost m:=by
  by_cases hs:m=s
  ·subst hs;rw[F.start hm];omega
  ·have:=hms hs;omega
 unfold rx
 split
 ·next ht=>
  have hnot2:A.st m≠2:=by rcases ht with h|h<;>omega
  have hnots:m≠s:=fun hs=>by
   subst hs
   have h0:=I.s0
   have h1:=I.sg
   rcases ht with h|h
   ·exact h0 h
   ·omega
  have hst: ∀u,(A.put m (A.g c+G.cost m) c).st u=if u=m then 1 else A.st u:=fun u=>rfl
  have hg: ∀u,(A.put m (A.g c+G.cost m) c).g u=if u=m then A.g c+G.cost m else A.g u:=fun u=>rfl
  have hcm: ∀u,(A.put m (A.g c+G.cost m) c).came u=if u=m then(c:Int) else A.came u:=fun u=>rfl
  have hcne:c≠m:=fun h=>hnot2 (h▸hc)
  have h2: ∀u,(A.put m (A.g c+G.cost m) c).st u=2→A.st u=2∧u≠m:=fun u hu=>by
   rw[hst]at hu
   split at hu
   ·omega
   ·exact⟨hu,by assumption⟩
  refine⟨fun u=> ?_,fun u hu=> ?_,?_,?_,?_,fun u hu=> ?_,fun u hu=> ?_,fun u hu=> ?_,fun u hu=> ?_,fun u hu hs=> ?_,fun u v hu ho hav hp=> ?_,?_⟩
  ·rw[hst];have:=I.two u;split<;>omega
  ·rw[hst]at hu
   split at hu
   ·next h=>rw[h];exact hm
   ·exact I.op u hu
  ·rw[hst,if_neg (fun h=>hnots h.symm)];exact I.s0
  ·rw[hg,if_neg (fun h=>hnots h.symm)];exact I.sg
  ·rw[hcm,if_neg (fun h=>hnots h.symm)];exact I.sc
  ·obtain⟨k1,k2⟩:=h2 u hu
   rw[hg,if_neg k2];exact I.opt u k1
  ·rw[hst]at hu
   rw[hg]
   split
   ·next h=>rw[h];exact hDm
   ·next h=>rw[if_neg h]at hu;exact I.lo u hu
  ·rw[hst]at hu
   rw[hg]
   show _∧_≤65535*A.cnt
   split
   ·omega
   ·next h=>rw[if_neg h]at hu;exact I.bd u hu
  ·obtain⟨k1,k2⟩:=h2 u hu
   rw[hg,if_neg k2];exact I.bd2 u k1
  ·by_cases hum:u=m
   ·subst hum
    refine⟨c,by rw[hcm,if_pos rfl],by rw[hst,if_neg hcne];exact hc,ha,?_⟩
    rw[hg,if_pos rfl,hg,if_neg hcne]
   ·rw[hst,if_neg hum]at hu
    obtain⟨w,w1,w2,w3,w4⟩:=I.back u hu hs
    have hwm:w≠m:=fun h=>hnot2 (h▸w2)
    exact⟨w,by rw[hcm,if_neg hum];exact w1,by rw[hst,if_neg hwm];exact w2,w3,by rw[hg,if_neg hum,hg,if_neg hwm];exact w4⟩
  ·obtain⟨k1,k2⟩:=h2 u hu
   rw[hst,hg,hg,if_neg k2]
   by_cases hvm:v=m
   ·subst hvm
    rw[if_pos rfl,if_pos rfl]
    refine⟨by omega,?_⟩
    by_cases huc:u=c
    ·subst huc;exact Int.le_refl _
    ·obtain⟨r1,r2⟩:=I.reach u v k1 ho hav (fun h=>hp ⟨h,fun h'=>huc h'.1⟩)
     rcases ht with h|h
     ·exact absurd h r1
     ·omega
   ·rw[if_neg hvm,if_neg hvm]
    exact I.reach u v k1 ho hav (fun h=>hp ⟨h,fun h'=>hvm h'.2⟩)
  ·have:=I.cnt
   show _=A.cnt
   rw[←this]
   congr 1
   refine List.countP_congr fun u _=> ?_
   rw[hst]
   simp only[decide_eq_true_eq]
   split
   ·next h=>subst h;omega
   ·exact Iff.rfl
 ·next ht=>
  refine {I with reach:=fun u v hu ho hav hp=> ?_}
  by_cases hh:u=c∧v=m
  ·obtain⟨rfl,rfl⟩:=hh
   have h2:=I.two v
   have h0:A.st v≠0:=fun h=>ht (.inl h)
   refine⟨h0,?_⟩
   by_cases h1:A.st v=1
   ·have: ¬(A.g u+G.cost v<A.g v):=fun h=>ht (.inr ⟨h1,h⟩)
    omega
   ·rw[I.opt v (by omega)];exact hDm
  ·exact I.reach u v hu ho hav (fun h=>hp ⟨h,hh⟩)
theorem aIq (I:SInv G D s A (fun _ _=>False)) (F:IsFar G s D) (hno: ∀v,A.st v≠1) {y:Nat} (hy:D y<aE):A.st y=2:=by
 by_cases h:A.st y=2
 ·exact h
 ·obtain⟨x,x1,_⟩:=zP I F (h:=fun _=>0) (fun _ _ _ _ _=>(by decide:(0:Int)≤0+1)) (D y).toNat y (by have:=F.nn y;omega) hy h
  exact absurd x1 (hno x)
end
structure HQ (K:Nat→fC) (A:AS) (ts:List aN):Prop where
 nodup:(ids ts).Nodup
 thing: ∀t,t∈ts→ ∃v:Nat,t=((v:Int),K v)∧A.st v=1
 fin: ∀v,A.st v=1→(v:Int)∈ids ts
variable {K K':Nat→fC} {A:AS} {ts ts':List aN}
theorem HQ.perm (Q:HQ K A ts) (h:ts'.Perm ts):HQ K A ts':=
 ⟨(iW h).nodup_iff.2 Q.nodup,fun t ht=>Q.thing t (h.mem_iff.1 ht),fun v hv=>(iW h).mem_iff.2 (Q.fin v hv)⟩
theorem HQ.ids_st (Q:HQ K A ts) {v:Nat} (h:(v:Int)∈ids ts):A.st v=1:=by
 obtain⟨t,ht,he⟩:=List.mem_map.1 h
 obtain⟨v',e,h1⟩:=Q.thing t ht
 rw[e]at he
 have:v'=v:=by simp only at he;omega
 rw[←this];exact h1
theorem HQ.few (Q:HQ K A ts) {n:Nat} (hn: ∀v,A.st v≠0→v<n):ts.length≤n:=by
 have h:(ids ts).length≤((List.range n).map fun v:Nat=>(v:Int)).length:=by
  refine mC Q.nodup fun t ht=> ?_
  obtain⟨x,hx,he⟩:=List.mem_map.1 ht
  obtain⟨v,e,h1⟩:=Q.thing x hx
  exact List.mem_map.2 ⟨v,List.mem_range.2 (hn v (by omega)),by rw[←he,e]⟩
 rw[cW]at h
 simpa using h
theorem HQ.push (Q:HQ K A ts) {m:Nat} {x c:Int} (h0:A.st m=0) (hK: ∀v,v≠m→K' v=K v) (hp:ts'.Perm (((m:Int),K' m)::ts)):HQ K' (A.put m x c) ts':=by
 have hnm:(m:Int)∉ids ts:=fun h=>by have:=Q.ids_st h;omega
 have hst: ∀u,(A.put m x c).st u=if u=m then 1 else A.st u:=fun u=>rfl
 refine HQ.perm (ts:=((m:Int),K' m)::ts) ⟨?_,fun t ht=> ?_,fun v hv=> ?_⟩ hp
 ·show((m:Int)::ids ts).Nodup
  exact List.nodup_cons.2 ⟨hnm,Q.nodup⟩
 ·rcases List.mem_cons.1 ht with rfl|ht
  ·exact⟨m,rfl,by rw[hst,if_pos rfl]⟩
  ·obtain⟨v,e,h1⟩:=Q.thing t ht
   have hvm:v≠m:=fun h=>by subst h;omega
   exact⟨v,by rw[hK v hvm];exact e,by rw[hst,if_neg hvm];exact h1⟩
 ·rw[hst]at hv
  show(v:Int)∈(m:Int)::ids ts
  by_cases e:v=m
  ·rw[e];exact List.mem_cons_self
  ·rw[if_neg e]at hv
   exact List.mem_cons_of_mem _ (Q.fin v hv)
theorem HQ.waits (Q:HQ K A ts) {m:Nat} (h1:A.st m=1): ∃k,k<ts.length∧tat ts k=((m:Int),K m):=by
 obtain⟨t,ht,he⟩:=List.mem_map.1 (Q.fin m h1)
 obtain⟨v',e,_⟩:=Q.thing t ht
 rw[e]at he
 have:v'=m:=by simp only at he;omega
 subst this
 obtain⟨k,hk,hkt⟩:=List.mem_iff_getElem.1 ht
 exact⟨k,hk,by rw[dF hk,hkt,e]⟩
theorem HQ.lower (Q:HQ K A ts) {m k:Nat} {x c:Int} (h1:A.st m=1) (hk:k<ts.length) (hat:tat ts k=((m:Int),K m)) (hK: ∀v,v≠m→K' v=K v) (hp:ts'.Perm (ts.set k ((m:Int),K' m))):HQ K' (A.put m x c) ts':=by
 have hst: ∀u,(A.put m x c).st u=if u=m then 1 else A.st u:=fun u=>rfl
 have hids:ids (ts.set k ((m:Int),K' m))=ids ts:=by
  unfold ids
  apply List.ext_getElem?
  intro j
  rw[List.getElem?_map,List.getElem?_map,List.getElem?_set]
  by_cases e:k=j
  ·subst e
   have:ts[k]=((m:Int),K m):=by rw[←dF hk];exact hat
   simp[hk,this]
  ·simp[e]
 refine HQ.perm (ts:=ts.set k ((m:Int),K' m)) ⟨by rw[hids];exact Q.nodup,fun t ht=> ?_,fun v hv=> ?_⟩ hp
 ·obtain⟨j,hj,he⟩:=List.mem_iff_getElem.1 ht
  have hj2:j<ts.length:=by rw[List.length_set]at hj;exact hj
  rw[List.getElem_set]at he
  split at he
  ·exact⟨m,he.symm,by rw[hst,if_pos rfl]⟩
  ·next hkj=>
   obtain⟨v,e,h2⟩:=Q.thing t (he▸List.getElem_mem hj2)
   have hvm:v≠m:=fun h=>hkj (by
    subst h
    have a1:(ids ts)[k]'(by rw[cW];exact hk)=(v:Int):=by
     have:=cV hk
     rw[hat]at this
     exact(List.getElem?_eq_some_iff.1 this).2
    have a2:(ids ts)[j]'(by rw[cW];exact hj2)=(v:Int):=by
     have:=cV hj2
     rw[dF hj2,he,e]at this
     exact(List.getElem?_eq_some_iff.1 this).2
    exact(List.getElem_inj (h₀:=by rw[cW];exact hk) (h₁:=by rw[cW];exact hj2) Q.nodup).1 (a1.trans a2.symm))
   exact⟨v,by rw[hK v hvm];exact e,by rw[hst,if_neg hvm];exact h2⟩
 ·rw[hids]
  rw[hst]at hv
  by_cases e:v=m
  ·rw[e];exact Q.fin m h1
  ·rw[if_neg e]at hv
   exact Q.fin v hv
theorem HQ.pop (Q:HQ K A ts) (ho:cZ ts) (hp:(tat ts 0::ts').Perm ts): ∃v:Nat,tat ts 0=((v:Int),K v)∧A.st v=1∧(∀u,A.st u=1→bE (K u) (K v)=false)∧HQ K (A.settle v) ts':=by
 have Q2:=Q.perm hp
 obtain⟨v,e,h1⟩:=Q2.thing _ List.mem_cons_self
 have hnd:(ids (tat ts 0::ts')).Nodup:=Q2.nodup
 have hnd2:((v:Int)::ids ts').Nodup:=by
  have:ids (tat ts 0::ts')=(v:Int)::ids ts':=by rw[e];rfl
  rw[←this];exact hnd
 obtain⟨hnv,hnd3⟩:=List.nodup_cons.1 hnd2
 have hst: ∀u,(A.settle v).st u=if u=v then 2 else A.st u:=fun u=>rfl
 refine⟨v,e,h1,fun u hu=> ?_,hnd3,fun t ht=> ?_,fun u hu=> ?_⟩
 ·obtain⟨k,hk,hat⟩:=Q.waits hu
  have hle:=yB ho k hk
  rw[hat,e]at hle
  have:=le_iff.1 hle
  cases hl:bE (K u) (K v)
  ·rfl
  ·rw[lessB_iff]at hl
   exfalso
   apply this
   simp only
   omega
 ·obtain⟨u,e2,h2⟩:=Q2.thing t (List.mem_cons_of_mem _ ht)
  have huv:u≠v:=fun h=>hnv (by subst h;exact List.mem_map.2 ⟨t,ht,by rw[e2]⟩)
  exact⟨u,e2,by rw[hst,if_neg huv];exact h2⟩
 ·rw[hst]at hu
  by_cases h:u=v
  ·rw[if_pos h]at hu;omega
  ·rw[if_neg h]at hu
   have h3:=Q2.fin u hu
   have:ids (tat ts 0::ts')=(v:Int)::ids ts':=by rw[e];rfl
   rw[this]at h3
   exact(List.mem_cons.1 h3).resolve_left (fun h4=>h (by omega))
end Go.Proofs.YtaellcgglldjaaaGreat

