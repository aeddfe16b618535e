/- Part of a proof: HierDl HierDm HierDn HierBa HierDo. -/
import Derived.Test.YtaellcgglldjaaaGreatHq39
import Derived.Test.YtaellcgglldjaaaGreatHq23
set_option linter.all false
set_option linter.unusedVariables false
set_option linter.unusedSimpArgs false
namespace Go.Proofs.YtaellcgglldjaaaGreat
open Go.RowKit
section
variable {W H s:Int} {l:List Int}
theorem pA (g:Good W H s l) {f t a:aB} (hf:0<aH l W f) (ht:0<aH l W t) (h:a∈cE W H (aI W H s l) f t):0<aH l W a:=by
 rcases (nodesL_mem.1 h).2 with rfl|rfl|h
 ·exact hf
 ·exact ht
 ·obtain⟨e,he,h⟩:=gIn_iff.1 h
  have:=jZ g he
  rcases h with rfl|rfl
  ·exact this.1
  ·exact this.2
theorem wY (g:Good W H s l) {a:aB} (ha:inB W H a.1 a.2=true) {id:Int} (hid:ofN W s a.1 a.2=id) (L:cT W H s id l) (ho:0<aH l W a):(aF L).op (aC W a)=true:=by
 have b:=inB_true.1 ha
 have hi:=dE g.right ha
 rw[hid]at hi
 show opV _ _ _ _=true
 rw[LandP.opV_idx L (by omega)]
 unfold aY
 rw[show bL (aU W s id) (aP W s id) (bB W s id) (bA W H s id) a.1 a.2=eB W H s id a from(fP g.right hi a).symm]
 unfold eB
 rw[ha,decide_eq_true hid,decide_eq_true ho]
 rfl
theorem kZ (g:Good W H s l) (hl:l.length≤150) {f t:aB} {c:Nat} (h:(hGr g hl f t).op c=true): ∃a,a∈cE W H (aI W H s l) f t∧aC W a=c∧aD W c=a∧inB W H a.1 a.2=true:=by
 obtain⟨a,ha,rfl⟩:=(eF g).1 h
 have hi:=eX g ha
 exact⟨a,ha,rfl,aW hi,hi⟩
noncomputable def pS (W H s:Int) (l:List Int) (c v:Nat):Int:=cI W H s l (aD W c) (aD W v)
theorem wG (g:Good W H s l) {a:aB} (ha:inB W H a.1 a.2=true): ∃L:cT W H s (ofN W s a.1 a.2) l,∀v,pS W H s l (aC W a) v=cJ L a v:=by
 obtain⟨L,h⟩:=mY g ha
 have hb:=mayB_true.1 (checkE_ok.1 g.ok).1
 refine⟨L,fun v=> ?_⟩
 unfold pS
 rw[aW ha,h,show aC W (aD W v)=v from dZ (by omega) v]
theorem aL9 (g:Good W H s l) (hl:l.length≤150) {f t:aB} (hfi:inB W H f.1 f.2=true) (hf:0<aH l W f) (ht:0<aH l W t) {D:Nat→Int} (F:IsFar (aZ g) (aC W f) D):
  rR (hGr g hl f t) (aC W f) D (pS W H s l) (aZ g).op:=by
 have hb:=mayB_true.1 (checkE_ok.1 g.ok).1
 have hn:(aZ g).n≤1000000:=by show l.length≤_;omega
 have hlow: ∀{u:Nat} {E:Nat→Int},IsFar (aZ g) u E→ ∀v,E v<aE→E v≤65535*150:=fun h v hv=>by
  have:=kY h v hv
  have e:((aZ g).n:Int)=(l.length:Int):=rfl
  rw[e]at this
  omega
 have hidx: ∀v:Nat,aC W (aD W v)=v:=fun v=>dZ (by omega) v
 refine⟨F.start ((dW g hfi).2 hf),F.nn,fun c hc q hq hlt=> ?_,fun c hc=> ?_,fun c v hc hv hne hlt=> ?_,fun x ho hne hlt=> ?_⟩
 ·obtain⟨a,ha,rfl,hca,hi⟩:=kZ g hl hc
  obtain⟨p,hp,rfl⟩:=List.mem_map.1 (show q∈(cO W H s l (aI W H s l) f t (aD W (aC W a))).map _ from hq)
  rw[hca]at hp
  rcases leg_mem.1 hp with⟨h1,h2,h3,h4,h5⟩|⟨e,he,hq⟩
  ·obtain⟨L,hL⟩:=wG g hi
   obtain⟨Dc,Fc⟩:=kX (aZ g) (aC W a)
   have hid:=dE g.right hi
   have hsub:=IsFar.sub_le (tM g hid L) (eD L a) Fc (aC W p.1)
   have hp2:cJ L a (aC W p.1)=p.2:=by rw[←hL,h5];unfold pS;rw[hca,aW (eX g h1)]
   have hp3:=(kA g hl hi hp).2.2.2.1
   have h3:=F.third hn Fc (kY F) (kY Fc) hlt (t:=aC W p.1) (by show _<(18446744073709551615:Int);omega)
   show D (aC W p.1)≤D (aC W a)+p.2
   omega
  ·obtain⟨j1,j2⟩:=rC g he
   obtain⟨o1,o2⟩:=jZ g he
   obtain⟨_,_,_,_,_,_,i1,i2,_⟩:=eU g.right he
   have hc0:=hlow F _ hlt
   have c1:=bI g.u16 W e.1
   have c2:=bI g.u16 W e.2
   have n0:=F.nn (aC W a)
   have d0:=F.start ((dW g hfi).2 hf)
   rcases rF hq with⟨rfl,rfl⟩|⟨rfl,rfl⟩
   ·show D (aC W e.2)≤D (aC W e.1)+aH l W e.2
    by_cases es:aC W e.2=aC W f
    ·rw[es,d0];omega
    ·exact F.near _ ((dW g i2).2 o2) es _ j1 ((dW g i1).2 o1) (by show _+aH l W e.2<(18446744073709551615:Int);omega)
   ·show D (aC W e.1)≤D (aC W e.2)+aH l W e.1
    by_cases es:aC W e.1=aC W f
    ·rw[es,d0];omega
    ·exact F.near _ ((dW g i1).2 o1) es _ j2 ((dW g i2).2 o2) (by show _+aH l W e.1<(18446744073709551615:Int);omega)
 ·obtain⟨a,ha,rfl,hca,hi⟩:=kZ g hl hc
  obtain⟨L,hL⟩:=wG g hi
  rw[hL]
  exact(eD L a).start (wY g hi rfl L (pA g hf ht ha))
 ·obtain⟨a,ha,rfl,hca,hi⟩:=kZ g hl hc
  obtain⟨b,hbn,rfl,hcb,hib⟩:=kZ g hl hv
  obtain⟨L,hL⟩:=wG g hi
  have ho:=(eD L a).open_ (v:=aC W b) (by rw[←hL];exact hlt)
  have hof:=rV g (dE g.right hi) L ho
  rw[hcb]at hof
  refine List.mem_map.2 ⟨(b,cI W H s l a b),?_,?_⟩
  ·rw[hca]
   refine leg_mem.2 (.inl ⟨hbn,hof,fun e=>hne (congrArg (aC W) (show b=a from e)).symm,?_,rfl⟩)
   unfold pS at hlt
   rw[hca,hcb]at hlt
   simp only
   omega
  ·unfold pS
   rw[hca,hcb]
 ·obtain⟨y,ya,yo,he⟩:=F.from_ x ho hne hlt
  have hpos:=(aZ g).pos x ho
  have hcx:(aZ g).cost x=aH l W (aD W x):=by
   show l.getD x 0=l.getD (aC W (aD W x)) 0
   rw[hidx]
  have hix:=(fJ g ((aZ g).lt x ho)).1
  have hiy:=(fJ g ((aZ g).lt y yo)).1
  obtain⟨y1,y2⟩:=k_adj.1 ya
  refine⟨y,yo,by omega,?_⟩
  rcases cross_iff.1 y2 with h|h
  ·left
   intro c hc hcy
   obtain⟨a,ha,rfl,hca,hi⟩:=kZ g hl hc
   obtain⟨L,hL⟩:=wG g hi
   rw[hL]at hcy⊢
   rw[hL]
   have FL:=eD L a
   have hoy:=FL.open_ hcy
   have hof:=rV g (dE g.right hi) L hoy
   have hox:(aF L).op x=true:=by
    have h1:=wY g hix (h.symm.trans hof) L ((dW g hix).1 (by rw[hidx];exact ho))
    rw[hidx]at h1
    exact h1
   have hy0:=FL.nn y
   by_cases e:x=aC W a
   ·have h0:=FL.start (wY g hi rfl L (pA g hf ht ha))
    rw[e]at hpos he⊢
    rw[h0]
    exact⟨by decide,by omega⟩
   ·have hly:=kY FL y hcy
    rw[tU L]at hly
    have hcc:(aF L).cost x=(aZ g).cost x:=rfl
    have htop:=(aZ g).top x ho
    have hadj:y∈(aF L).adj x:=by
     obtain⟨p,hp,hpy⟩:=List.mem_map.1 (show y∈(nbC (aY l W 0 0 W H) (vx W x) (vy W x) 4).map (aC W) from y1)
     obtain⟨k,hk,hop,rfl⟩:=mem_nbC.1 hp
     have hin:=(bF g).in_ (cC hop).1
     have hoy':opV (aY l W (aU W s _) (aP W s _) (bB W s _) (bA W H s _)) W l.length y=true:=hoy
     rw[←hpy,LandP.opV_idx L (by omega)]at hoy'
     exact List.mem_map.2 ⟨_,mem_nbC.2 ⟨k,hk,hoy',rfl⟩,hpy⟩
    have:=FL.near x hox e y hadj hoy (by rw[hcc];show _<(18446744073709551615:Int);omega)
    rw[hcc]at this
    exact⟨by show _<(18446744073709551615:Int);omega,by omega⟩
  ·right
   have hnd: ∀{u v:aB},(u,v)∈aI W H s l→ofN W s u.1 u.2≠ofN W s v.1 v.2:=fun hh=>by
    obtain⟨p,q,_,hpq,_,_,_,_,o1,o2,_⟩:=eU g.right hh
    simp only at o1 o2
    omega
   have hD:D x-D y=aH l W (aD W x):=by omega
   rw[hD]
   rcases h with h|h
   ·refine⟨(eF g).2 ⟨_,gX g (gIn_iff.2 ⟨_,h, .inl rfl⟩),hidx y⟩,(eF g).2 ⟨_,gX g (gIn_iff.2 ⟨_,h, .inr rfl⟩),hidx x⟩,List.mem_map.2 ⟨(aD W x,aH l W (aD W x)),leg_mem.2 (.inr ⟨_,h,?_⟩),by rw[hidx]⟩⟩
    unfold mN
    rw[if_pos rfl]
    exact List.mem_singleton.2 rfl
   ·refine⟨(eF g).2 ⟨_,gX g (gIn_iff.2 ⟨_,h, .inr rfl⟩),hidx y⟩,(eF g).2 ⟨_,gX g (gIn_iff.2 ⟨_,h, .inl rfl⟩),hidx x⟩,List.mem_map.2 ⟨(aD W x,aH l W (aD W x)),leg_mem.2 (.inr ⟨_,h,?_⟩),by rw[hidx]⟩⟩
    unfold mN
    rw[if_neg (fun e=>hnd h (by have e:aD W x=aD W y:=e;rw[e])),if_pos rfl]
    exact List.mem_singleton.2 rfl
end
end Go.Proofs.YtaellcgglldjaaaGreat

namespace Go.Proofs.YtaellcgglldjaaaGreat
open Go.RowKit
section
variable {W H s:Int} {l:List Int}
def dR (g:Good W H s l):aB→List aB→Prop
 |_,[]=>True
 |a,b::r=>(inB W H b.1 b.2=true∧0<aH l W b∧aC W a∈(aZ g).adj (aC W b))∧dR g b r
def iV:aB→List aB→aB
 |a,[]=>a
 |_,b::r=>iV b r
def gR (l:List Int) (W:Int):List aB→Int
 |[]=>0
 |b::r=>aH l W b+gR l W r
theorem xL (x y:List aB) (a:aB):iV a (x++y)=iV (iV a x) y:=by
 induction x generalizing a with
 |nil=>rfl
 |cons b r ih=>exact ih b
theorem rM (x y:List aB):gR l W (x++y)=gR l W x+gR l W y:=by
 induction x with
 |nil=>show _=0+_;rw[Int.zero_add];rfl
 |cons b r ih=>show aH l W b+gR l W (r++y)=aH l W b+gR l W r+_;rw[ih];omega
theorem xV (g:Good W H s l) (x y:List aB) (a:aB):dR g a (x++y)↔dR g a x∧dR g (iV a x) y:=by
 induction x generalizing a with
 |nil=>show dR g a y↔True∧_;rw[true_and];rfl
 |cons b r ih=>
  show(_∧dR g b (r++y))↔(_∧dR g b r)∧dR g (iV b r) y
  rw[ih]
  exact⟨fun h=>⟨⟨h.1,h.2.1⟩,h.2.2⟩,fun h=>⟨h.1.1,h.1.2,h.2⟩⟩
theorem aE5 (g:Good W H s l) {a:aB} (ha:inB W H a.1 a.2=true) (L:cT W H s (ofN W s a.1 a.2) l) {v:Nat} {p:List Nat} (h:BackP (aF L) (cJ L a) v p):cJ L a v<aE→
  dR g a ((p.reverse.map (aD W)).drop 1)∧iV a ((p.reverse.map (aD W)).drop 1)=aD W v∧gR l W ((p.reverse.map (aD W)).drop 1)=cJ L a v:=by
 have hb:=mayB_true.1 (checkE_ok.1 g.ok).1
 have hidx: ∀v:Nat,aC W (aD W v)=v:=fun v=>dZ (by omega) v
 have F:=eD L a
 induction h with
 | @done v h0=>
  intro hv
  have ho:=F.open_ hv
  have e:v=aC W a:=by
   by_cases e:v=aC W a
   ·exact e
   ·obtain⟨u,_,_,he⟩:=F.from_ v ho e hv
    have:=(aF L).pos v ho
    have:=F.nn u
    omega
  refine⟨trivial,?_,h0.symm⟩
  rw[e,aW ha]
  rfl
 | @step v u q h0 hn hbk ih=>
  intro hv
  obtain⟨l1,l2,l3⟩:=gV F hv hn
  obtain⟨n1,n2⟩:=mB hn
  obtain⟨i1,i2,i3⟩:=ih l2
  obtain⟨r,rfl⟩:=hbk.head
  have hov:=F.open_ hv
  have hS:=tM g (dE g.right ha) L
  have hd:((v::u::r).reverse.map (aD W)).drop 1=(((u::r).reverse.map (aD W)).drop 1)++[aD W v]:=by
   rw[List.reverse_cons,List.map_append,List.drop_append_of_le_length (by simp)]
   rfl
  rw[hd]
  have hiv:=(fJ g ((aF L).lt v hov)).1
  refine⟨(xV g _ _ _).2 ⟨i1,?_⟩,?_,?_⟩
  ·rw[i2]
   refine⟨⟨hiv,(dW g hiv).1 (by rw[hidx];exact hS.op v hov),?_⟩,trivial⟩
   rw[hidx,hidx]
   exact hS.adj u v l3 hov n1
  ·rw[xL];rfl
  ·rw[rM,i3]
   have hc:(aF L).cost v=aH l W (aD W v):=by
    show l.getD v 0=l.getD (aC W (aD W v)) 0
    rw[hidx]
   show _+(aH l W (aD W v)+0)=_
   omega
theorem aJ1 (g:Good W H s l) (hl:l.length≤150) {f t a:aB} (ha:inB W H a.1 a.2=true) {q:aB×Int} (h:q∈cO W H s l (aI W H s l) f t a):
  dR g a (bO W H s l a q.1)∧iV a (bO W H s l a q.1)=q.1∧gR l W (bO W H s l a q.1)=q.2:=by
 rcases leg_mem.1 h with⟨h1,h2,h3,h4,h5⟩|⟨e,he,hq⟩
 ·obtain⟨L,hL⟩:=mY g ha
  rw[hL]at h4 h5
  have F:=eD L a
  have hlt:cJ L a (aC W q.1)<aE:=by have:=F.le (aC W q.1);omega
  obtain⟨p,hp⟩:=aBe F (cJ L a (aC W q.1)).toNat _ (by have:=F.nn (aC W q.1);omega) hlt
  rw[uH h2 L hp]
  obtain⟨k1,k2,k3⟩:=aE5 g ha L hp hlt
  rw[aW (eX g h1)]at k2
  exact⟨k1,k2,k3.trans h5.symm⟩
 ·obtain⟨j1,j2⟩:=rC g he
  obtain⟨o1,o2⟩:=jZ g he
  obtain⟨_,_,_,hlt,_,_,i1,i2,c1,c2,_⟩:=eU g.right he
  rcases rF hq with⟨rfl,rfl⟩|⟨rfl,rfl⟩
  ·rw[kJ (by simp only;omega)]
   exact⟨⟨⟨i2,o2,j1⟩,trivial⟩,rfl,by show _+0=_;rw[Int.add_zero]⟩
  ·rw[kJ (by simp only;omega)]
   exact⟨⟨⟨i1,o1,j2⟩,trivial⟩,rfl,by show _+0=_;rw[Int.add_zero]⟩
theorem aDb (g:Good W H s l) (hl:l.length≤150) {f t:aB} (hf:inB W H f.1 f.2=true) {A:AS} (I:LInv (hGr g hl f t) (aC W f) A) {v:Nat} {ch:List Nat} (C:Chain A.came v ch): ∀acc,A.st v≠0→dR g (aD W v) acc→
  dR g f (eN (fun u v=>bO W H s l (aD W u) (aD W v)) acc ch)∧iV f (eN (fun u v=>bO W H s l (aD W u) (aD W v)) acc ch)=iV (aD W v) acc∧gR l W (eN (fun u v=>bO W H s l (aD W u) (aD W v)) acc ch)=A.g v+gR l W acc:=by
 induction C with
 | @stop v hc=>
  intro acc h0 hg
  have e:v=aC W f:=by
   by_cases e:v=aC W f
   ·exact e
   ·obtain⟨u,x,u1,_⟩:=I.back v h0 e
    omega
  subst e
  rw[aW hf]at hg⊢
  exact⟨hg,rfl,by rw[I.sg];show gR l W acc=_;omega⟩
 | @go v u r hc C ih=>
  intro acc h0 hg
  have hs:v≠aC W f:=fun e=>by subst e;rw[I.sc]at hc;omega
  obtain⟨u',x,u1,u2,u3,u4⟩:=I.back v h0 hs
  obtain rfl:u=u':=by omega
  have hu:=(fJ g ((hGr g hl f t).lt u (I.op u (by omega)))).1
  obtain⟨q,hq,he⟩:=List.mem_map.1 u3
  have hin:=eX g (kA g hl hu hq).1
  have e1:aC W q.1=v:=congrArg Prod.fst he
  have e2:q.2=x:=congrArg Prod.snd he
  have hcv:aD W v=q.1:=by rw[←e1,aW hin]
  obtain⟨w1,w2,w3⟩:=aJ1 g hl hu hq
  rw[hcv]at hg⊢
  have hg2:dR g (aD W u) (bO W H s l (aD W u) q.1++acc):=(xV g _ _ _).2 ⟨w1,by rw[w2];exact hg⟩
  obtain⟨k1,k2,k3⟩:=ih _ (by omega) hg2
  have hr: ∃z,r=u::z:=by cases C<;>exact⟨_,rfl⟩
  obtain⟨z,rfl⟩:=hr
  have hp:eN (fun u v=>bO W H s l (aD W u) (aD W v)) acc (v::u::z)=eN (fun u v=>bO W H s l (aD W u) (aD W v)) (bO W H s l (aD W u) q.1++acc) (u::z):=by
   show eN _ (bO W H s l (aD W u) (aD W v)++acc) (u::z)=_
   rw[hcv]
  rw[hp]
  refine⟨k1,?_,?_⟩
  ·rw[k2,xL,w2]
  ·rw[k3,rM,w3];omega
theorem aFj (g:Good W H s l) (hl:l.length≤150) {f t:aB} (hf:inB W H f.1 f.2=true) (ht:inB W H t.1 t.2=true) {b:Int} {A:AS} {p:List aB} {c k e:Int} (r:LRun (hGr g hl f t) W (aC W t) b (iL W H s l f) A p c k e) (I:LInv (hGr g hl f t) (aC W f) A) (he:e=0):
  ∃q,p=f::q∧dR g f q∧iV f q=t∧gR l W q=c:=by
 induction r with
 |none _=>omega
 |full _ _ _=>omega
 |found hB hn0 hc=>
  rename_i A ch
  obtain⟨k1,k2,k3⟩:=aDb g hl hf I hc [] (by rw[hB.1];decide) trivial
  refine⟨_,rfl,k1,?_,?_⟩
  ·rw[k2,aW ht];rfl
  ·rw[k3];show _+0=_;rw[Int.add_zero]
 |next hB _ _ _ ih=>exact ih (kC I hB.1) he
end
end Go.Proofs.YtaellcgglldjaaaGreat

namespace Go.Proofs.YtaellcgglldjaaaGreat
open Go.RowKit
theorem vD {G:LGr} {W:Int} {t:Nat} {b:Int} {P:List Nat→List aB} {A:AS} {p:List aB} {c k e:Int} (r:LRun G W t b P A p c k e) (he:e=22):p=[]∧c=0:=by
 induction r with
 |none _=>exact⟨rfl,rfl⟩
 |full _ _ _=>omega
 |found _ _ _=>omega
 |next _ _ _ _ ih=>exact ih he
theorem yK {G:LGr} {W:Int} {t:Nat} {b:Int} {P:List Nat→List aB} {A:AS} {p:List aB} {c k e:Int} (r:LRun G W t b P A p c k e) (he:e=0):A.cnt+1≤k∧(A.st t≠1→A.cnt+2≤k):=by
 induction r with
 |none _=>omega
 |full _ _ _=>omega
 |found hB _ _=>exact⟨Int.le_refl _,fun h=>absurd hB.1 h⟩
 |next _ _ _ _ ih=>
  have:=(ih he).1
  rw[aC6]at this
  exact⟨by omega,fun _=>by omega⟩
section
variable {W H s:Int} {l:List Int}
theorem yE (g:Good W H s l) (hl:l.length≤150) {f t:aB} (hf:inB W H f.1 f.2=true) (ht:inB W H t.1 t.2=true) {D:Nat→Int} (F:IsFar (aZ g) (aC W f) D) {p:List aB} {c k e:Int} (h:HSrch W H s l f t l.length p c k e):
  (¬D (aC W t)<aE∧e=22∧p=[]∧c=0)∨
  (D (aC W t)<aE∧e=0∧c=D (aC W t)∧(∃q,p=f::q∧dR g f q∧iV f q=t∧gR l W q=c)∧0<aH l W f∧1≤k∧k≤l.length∧(f≠t→2≤k)):=by
 rcases h with⟨h1,_⟩|⟨h1,h2,_⟩|⟨h1,h2,h3,rfl,rfl,rfl,rfl⟩|⟨h1,h2,h3,g',hl',h4⟩
 ·exact absurd ⟨hf,ht⟩ h1
 ·omega
 ·refine .inl ⟨fun hlt=> ?_,rfl,rfl,rfl⟩
  have e1:=(F.way_of hlt).ends
  have o1:=(dW g hf).1 e1.1
  have o2:=(dW g ht).1 (F.open_ hlt)
  omega
 ·have b1:=bI g.u16 W f
  have b2:=bI g.u16 W t
  have of:0<aH l W f:=by omega
  have ot:0<aH l W t:=by omega
  have X:=aL9 g hl hf of ot F (t:=t)
  have I:=vP g hl hf (t:=t)
  have hw:((hGr g hl f t).n:Int)=l.length:=rfl
  obtain⟨he,hk1,hk2⟩:=aFi h4 I (Int.le_refl _)
  have htn:t∈cE W H (aI W H s l) f t:=by
   have:=inB_true.1 ht
   exact nodesL_mem.2 ⟨by omega, .inr (.inl rfl)⟩
  have hto:(hGr g hl f t).op (aC W t)=true:=(eF g).2 ⟨_,htn,rfl⟩
  have hop: ∀v,(hGr g hl f t).op v=true→(aZ g).op v=true:=fun v hv=>by
   obtain⟨a,ha,rfl,_,hi⟩:=kZ g hl hv
   exact(dW g hi).2 (pA g of ot ha)
  have hst:(aV (aC W f)).st (aC W t)≠2:=by
   unfold aV bK
   simp only
   split<;>omega
  have hM:gK (aV (aC W f)):=fun u v hu _=>by
   unfold aV bK at hu
   simp only at hu
   split at hu<;>omega
  obtain⟨d1,d2⟩:=aFh X (by omega) hop hto h4 I (aDn _) hM hst
  rcases he with rfl|rfl
  ·obtain⟨e1,e2⟩:=d1 rfl
   refine .inr ⟨e2,rfl,e1,aFj g hl hf ht h4 I rfl,of,?_,by omega,fun hne=> ?_⟩
   ·have:=(yK h4 rfl).1
    rw[vO]at this
    omega
   ·have:=(yK h4 rfl).2 (by
     unfold aV bK
     simp only
     rw[if_neg (fun e=>hne (tR ht hf e).symm)]
     decide)
    rw[vO]at this
    omega
  ·exact .inl ⟨d2 rfl,rfl,(vD h4 rfl).1,(vD h4 rfl).2⟩
end
end Go.Proofs.YtaellcgglldjaaaGreat

namespace Go.Proofs.YtaellcgglldjaaaGreat
open Go.RowKit
theorem aH6 {W H s a b:Int} (h:a<b):eK W H s a b=aT W H s a b:=by
 unfold eK
 rw[show min a b=a by omega,show max a b=b by omega]
section
variable {W H s:Int} {l:List Int}
end
end Go.Proofs.YtaellcgglldjaaaGreat

namespace Go.Proofs.YtaellcgglldjaaaGreat
open Go.RowKit
theorem aEu {o:Nat→Bool} {n k:Nat} (hk:k<n) (ho:o k=true): ∀(m i:Nat),n-i=m→i≤k→ ∃d,d∈cL o n i∧d<n∧ ∀j,(d≤j∧j≤k∨k≤j∧j≤d)→o j=true:=by
 intro m
 induction m using Nat.strongRecOn with
 |_ m ih=>
  intro i hm hi
  cases hoi:o i
  ·have hne:i≠k:=fun e=>by rw[e,ho]at hoi;cases hoi
   rw[nU (by omega) hoi]
   exact ih (n-(i+1)) (by omega) (i+1) rfl (by omega)
  ·obtain⟨s1,s2,s3,s4⟩:=pK (o:=o) (n:=n) (i:=i) (by omega)
   have s5:=uD (o:=o) (n:=n) (i:=i) (by omega) hoi
   generalize fY o n i=e at *
   rw[gT s5 s2 s3 s4]
   by_cases hke:k<e
   ·refine⟨_,List.mem_cons_self,by omega,fun j hj=>s3 j ?_ ?_⟩<;>omega
   ·obtain⟨d,d1,d2,d3⟩:=ih (n-e) (by omega) e rfl (by omega)
    exact⟨d,List.mem_cons_of_mem _ d1,d2,d3⟩
section
variable {W H s:Int} {l:List Int}
theorem rA {G:Net} (hn:G.n≤1000000) {u v z:Nat} {D:Nat→Int} (F:IsFar G z D) (ha:u∈G.adj v) (ho:G.op v=true) (hu:D u<aE):D v<aE:=by
 by_cases e:v=z
 ·subst e;rw[F.start ho];decide
 ·have h1:=kY F u hu
  have h2:=G.top v ho
  have h3:(65535*(G.n:Int))≤65535*1000000:=by omega
  have h4:D u+G.cost v<aE:=by show _<(18446744073709551615:Int);omega
  have:=F.near v ho e u ha (F.open_ hu) h4
  omega
def jN (a b:aB):Prop:= ∃k,k<4∧a=(b.1+aQ k,b.2+aR k)
theorem zN (g:Good W H s l) {a b:aB} (ha:inB W H a.1 a.2=true) (hb:inB W H b.1 b.2=true) (oa:0<aH l W a) (h:jN a b):aC W a∈(aF (bF g)).adj (aC W b):=by
 obtain⟨k,hk,hs⟩:=h
 have b1:=inB_true.1 ha
 have b2:=inB_true.1 hb
 show _∈wQ _ _ _
 unfold wQ
 rw[List.mem_map]
 obtain⟨p,q⟩:=a
 obtain⟨x,y⟩:=b
 simp only at b1 b2 hs oa⊢
 refine⟨(p,q),mem_nbC.2 ⟨k,hk,?_,?_⟩,rfl⟩
 ·rw[cQ (by omega) (by omega) (by omega),cR (by omega) (by omega) (by omega)]
  unfold aY
  rw[←hs]
  injection hs with e1 e2
  rw[←e1,←e2,hasB_true.2 (by omega),decide_eq_true oa]
  rfl
 ·rw[cQ (by omega) (by omega) (by omega),cR (by omega) (by omega) (by omega)]
  exact hs
theorem lH (g:Good W H s l) (hl:l.length≤150) {z:Nat} {D:Nat→Int} (F:IsFar (aZ g) z D) {a b:aB} (ha:inB W H a.1 a.2=true) (hb:inB W H b.1 b.2=true) (oa:0<aH l W a) (ob:0<aH l W b) (h:jN a b) (e:ofN W s a.1 a.2=ofN W s b.1 b.2) (hD:D (aC W a)<aE):D (aC W b)<aE:=
 rA (by show l.length≤_;omega) F (k_adj.2 ⟨zN g ha hb oa h,by rw[aW ha,aW hb];exact cross_iff.2 (.inl e)⟩) ((dW g hb).2 ob) hD
theorem aHi (g:Good W H s l) (hl:l.length≤150) {z:Nat} {D:Nat→Int} (F:IsFar (aZ g) z D) {e:aB×aB} (he:e∈aI W H s l):(D (aC W e.1)<aE→D (aC W e.2)<aE)∧(D (aC W e.2)<aE→D (aC W e.1)<aE):=by
 obtain⟨j1,j2⟩:=rC g he
 obtain⟨o1,o2⟩:=jZ g he
 obtain⟨_,_,_,_,_,_,i1,i2,_⟩:=eU g.right he
 have hn:(aZ g).n≤1000000:=by show l.length≤_;omega
 exact⟨rA hn F j1 ((dW g i2).2 o2),rA hn F j2 ((dW g i1).2 o1)⟩
theorem kG {a b:aB} (h:jN a b):jN b a:=by
 obtain⟨k,hk,hs⟩:=h
 refine⟨opp k,aFq,?_⟩
 obtain⟨d1,d2⟩:=nC hk
 rw[d1,d2,hs]
 ext<;>simp only<;>omega
theorem zJ {W s lo:Int} (hA:0<acr W s) (h:lo% acr W s<acr W s-1):aP W s lo=aP W s (lo+1):=by
 unfold aP
 have h1:=Int.emod_nonneg lo (show acr W s≠0 by omega)
 have h2:=Int.mul_ediv_add_emod lo (acr W s)
 have h3:(lo+1)/acr W s=lo/acr W s:=by
  have e:lo+1=(lo% acr W s+1)+acr W s*(lo/acr W s):=by omega
  rw[e,Int.add_mul_ediv_left _ _ (show acr W s≠0 by omega),Int.ediv_eq_zero_of_lt (by omega) (by omega)]
  rw[Int.zero_add]
 rw[h3]
theorem uM {lo hi:Int} (hr:aL W H s=true) (hp:Pair W H s lo hi) {k:Nat} {p q:aB×aB} (h1:(aT W H s lo hi)[k]? =some p) (h2:(aT W H s lo hi)[k+1]? =some q):jN p.1 q.1∧jN p.2 q.2:=by
 obtain⟨r1,r2,r3,r4,r5,r6⟩:=rightB_true.1 hr
 have hA:=bR W s r5 r6 r1 r2
 obtain⟨_,_,_,_,a⟩:=eJ hr hp h1
 obtain⟨_,_,_,_,b⟩:=eJ hr hp h2
 rcases a with⟨a0,a1,a,_⟩|⟨a0,a,_⟩<;>rcases b with⟨b0,b1,b,_⟩|⟨b0,b,_⟩
 ·rw[a,b]
  exact⟨⟨0,by decide,by simp only[aQ,aR,Prod.mk.injEq];push_cast;omega⟩,⟨0,by decide,by simp only[aQ,aR,Prod.mk.injEq];push_cast;omega⟩⟩
 ·exact absurd (by rw[a0];exact zJ (by omega) a1) b0
 ·exact absurd (by rw[b0];exact zJ (by omega) b1) a0
 ·rw[a,b]
  exact⟨⟨3,by decide,by simp only[aQ,aR,Prod.mk.injEq];push_cast;omega⟩,⟨3,by decide,by simp only[aQ,aR,Prod.mk.injEq];push_cast;omega⟩⟩
theorem lX (g:Good W H s l) (hl:l.length≤150) {z:Nat} {D:Nat→Int} (F:IsFar (aZ g) z D) {lo hi:Int} (hp:Pair W H s lo hi): ∀(n:Nat) (j k:Nat) (p q:aB×aB),(aT W H s lo hi)[j]? =some p→(aT W H s lo hi)[k]? =some q→(j+n=k∨k+n=j)→(∀i,(j≤i∧i≤k∨k≤i∧i≤j)→opB l W (aT W H s lo hi) i=true)→
  (D (aC W p.1)<aE→D (aC W q.1)<aE)∧(D (aC W p.2)<aE→D (aC W q.2)<aE)
 |0,j,k,p,q,h1,h2,hn,_=>by
  obtain rfl:j=k:=by omega
  rw[h1]at h2
  cases h2
  exact⟨id,id⟩
 |n+1,j,k,p,q,h1,h2,hn,ho=>by
  have hop: ∀{i:Nat} {x:aB×aB},(aT W H s lo hi)[i]? =some x→(j≤i∧i≤k∨k≤i∧i≤j)→0<aH l W x.1∧0<aH l W x.2:=fun {i x} hx hi=>by
   have:=ho i hi
   unfold opB at this
   rw[hx]at this
   unfold kW at this
   simpa using this
  have hk:=List.getElem?_eq_some_iff.1 h2
  have hj:=List.getElem?_eq_some_iff.1 h1
  rcases hn with hn|hn
  ·obtain⟨x,hx⟩: ∃x,(aT W H s lo hi)[j+1]? =some x:=⟨_,List.getElem?_eq_getElem (by have:=hk.1;omega)⟩
   obtain⟨s1,s2⟩:=uM g.right hp h1 hx
   obtain⟨c1,c2,c3,c4,_⟩:=eJ g.right hp h1
   obtain⟨d1,d2,d3,d4,_⟩:=eJ g.right hp hx
   obtain⟨o1,o2⟩:=hop h1 (by omega)
   obtain⟨o3,o4⟩:=hop hx (by omega)
   obtain⟨i1,i2⟩:=lX g hl F hp n (j+1) k x q hx h2 (by omega) (fun i hi=>ho i (by omega))
   exact⟨fun h=>i1 (lH g hl F c1 d1 o1 o3 s1 (by omega) h),fun h=>i2 (lH g hl F c2 d2 o2 o4 s2 (by omega) h)⟩
  ·obtain⟨m,rfl⟩: ∃m,j=m+1:=⟨j-1,by omega⟩
   obtain⟨x,hx⟩: ∃x,(aT W H s lo hi)[m]? =some x:=⟨_,List.getElem?_eq_getElem (by have:=hj.1;omega)⟩
   obtain⟨s1,s2⟩:=uM g.right hp hx h1
   obtain⟨c1,c2,c3,c4,_⟩:=eJ g.right hp h1
   obtain⟨d1,d2,d3,d4,_⟩:=eJ g.right hp hx
   obtain⟨o1,o2⟩:=hop h1 (by omega)
   obtain⟨o3,o4⟩:=hop hx (by omega)
   obtain⟨i1,i2⟩:=lX g hl F hp n m k x q hx h2 (by omega) (fun i hi=>ho i (by omega))
   exact⟨fun h=>i1 (lH g hl F c1 d1 o1 o3 (kG s1) (by omega) h),fun h=>i2 (lH g hl F c2 d2 o2 o4 (kG s2) (by omega) h)⟩
theorem aHp {lo hi:Int} (hr:aL W H s=true) (h0:0≤lo) (hlt:lo<hi) (hid:hi<cnt W H s) (hp:Pair W H s lo hi) {d:Nat} {e:aB×aB} (hd:d∈oC (opB l W (aT W H s lo hi)) (aT W H s lo hi).length (aT W H s lo hi).length) (he:(aT W H s lo hi)[d]? =some e):e∈aI W H s l:=by
 obtain⟨a,rfl⟩: ∃a:Nat,lo=(a:Int):=⟨lo.toNat,by omega⟩
 unfold aI ofG
 refine List.mem_flatMap.2 ⟨a,List.mem_range.2 (by omega),?_⟩
 unfold oD
 refine List.mem_flatMap.2 ⟨hi,List.mem_filter.2 ⟨(cM _).mem_iff.2 (hasI_iff.1 ((mA hr h0 hlt hid).2 hp)),decide_eq_true (by omega)⟩,?_⟩
 unfold btw fL
 rw[aH6 hlt]
 exact List.mem_filterMap.2 ⟨d,hd,he⟩
theorem lY (g:Good W H s l) (hl:l.length≤150) {z:Nat} {D:Nat→Int} (F:IsFar (aZ g) z D) {p q:aB} (hp:inB W H p.1 p.2=true) (hq:inB W H q.1 q.2=true) (op:0<aH l W p) (oq:0<aH l W q) (h:Left p q∨pN p q) (hne:ofN W s p.1 p.2≠ofN W s q.1 q.2):
  (D (aC W p)<aE→D (aC W q)<aE)∧(D (aC W q)<aE→D (aC W p)<aE):=by
 obtain⟨hP,k0,hk,hall⟩:=aCg g.right hp hq h hne
 have b1:=dE g.right hp
 have b2:=dE g.right hq
 have hlt:=hP.lt g.right
 generalize ofN W s p.1 p.2=lo at *
 generalize ofN W s q.1 q.2=hi at *
 have hB:(aT W H s lo hi)[k0]? =some (p,q):=by
  have e:=List.getElem?_eq_getElem hk
  rw[e]
  exact congrArg some ((hall k0 _ e).2 rfl)
 have ho:opB l W (aT W H s lo hi) k0=true:=by
  unfold opB
  rw[hB]
  unfold kW
  simp only[Bool.and_eq_true,decide_eq_true_eq]
  exact⟨op,oq⟩
 obtain⟨d,d1,d2,d3⟩:=aEu hk ho _ 0 rfl (Nat.zero_le _)
 rw[uS]at d1
 have he:=List.getElem?_eq_getElem d2
 have hg:=aHp g.right b1.1 hlt b2.2 hP d1 he
 obtain⟨g1,g2⟩:=aHi g hl F hg
 have ho2: ∀i,(k0≤i∧i≤d∨d≤i∧i≤k0)→opB l W (aT W H s lo hi) i=true:=fun i hi=>d3 i (by omega)
 obtain⟨n,hn⟩: ∃n,k0+n=d∨d+n=k0:=by
  rcases Nat.le_total k0 d with h|h
  ·exact⟨d-k0,by omega⟩
  ·exact⟨k0-d,by omega⟩
 obtain⟨a1,a2⟩:=lX g hl F hP n k0 d _ _ hB he hn ho2
 obtain⟨c1,c2⟩:=lX g hl F hP n d k0 _ _ he hB (by omega) (fun i hi=>ho2 i (by omega))
 exact⟨fun h=>c2 (g1 (a1 h)),fun h=>c1 (g2 (a2 h))⟩
theorem aIo {a b:aB} (h:jN a b):Left a b∨pN a b∨Left b a∨pN b a:=by
 obtain⟨k,hk,hs⟩:=h
 obtain⟨p,q⟩:=a
 obtain⟨x,y⟩:=b
 simp only[Prod.mk.injEq]at hs
 unfold Left pN
 simp only
 obtain rfl|rfl|rfl|rfl:k=0∨k=1∨k=2∨k=3:=by omega
 all_goals
  simp only[aQ,aR]at hs
  omega
theorem aG0 (g:Good W H s l) (hl:l.length≤150) {z:Nat} {D E:Nat→Int} (F:IsFar (aZ g) z D) (FE:IsFar (aF (bF g)) z E): ∀(k:Nat) (v:Nat),E v=(k:Int)→E v<aE→D v<aE:=by
 have hb:=mayB_true.1 (checkE_ok.1 g.ok).1
 have hidx: ∀v:Nat,aC W (aD W v)=v:=fun v=>dZ (by omega) v
 intro k
 induction k using Nat.strongRecOn with
 |_ k ih=>
  intro v hv hlt
  have ho:=FE.open_ hlt
  by_cases e:v=z
  ·subst e
   rw[F.start ho]
   decide
  ·obtain⟨u,ua,uo,ue⟩:=FE.from_ v ho e hlt
   have hpos:=(aF (bF g)).pos v ho
   have hn:=FE.nn u
   have hu:=ih (E u).toNat (by omega) u (by omega) (by omega)
   have iv:=(fJ g ((aF (bF g)).lt v ho)).1
   have iu:=(fJ g ((aF (bF g)).lt u uo)).1
   have ov:=(dW g iv).1 (by rw[hidx];exact ho)
   have ou:=(dW g iu).1 (by rw[hidx];exact uo)
   have hs:jN (aD W u) (aD W v):=by
    obtain⟨p,hp,hpu⟩:=List.mem_map.1 (show u∈(nbC (aY l W 0 0 W H) (vx W v) (vy W v) 4).map (aC W) from ua)
    obtain⟨k,hk,hop,rfl⟩:=mem_nbC.1 hp
    have hin:=(bF g).in_ (cC hop).1
    refine⟨k,hk,?_⟩
    rw[←hpu,aW (W:=W) (H:=H) (c:=(vx W v+aQ k,vy W v+aR k)) (inB_true.2 (by simp only;omega))]
    rfl
   by_cases hc:ofN W s (aD W u).1 (aD W u).2=ofN W s (aD W v).1 (aD W v).2
   ·have:=lH g hl F iu iv ou ov hs hc (by rw[hidx];exact hu)
    rw[hidx]at this
    exact this
   ·have hu':D (aC W (aD W u))<aE:=by rw[hidx];exact hu
    have hv':D (aC W (aD W v))<aE:=by
     rcases aIo hs with h|h|h|h
     ·exact(lY g hl F iu iv ou ov (.inl h) hc).1 hu'
     ·exact(lY g hl F iu iv ou ov (.inr h) hc).1 hu'
     ·exact(lY g hl F iv iu ov ou (.inl h) (fun e=>hc e.symm)).2 hu'
     ·exact(lY g hl F iv iu ov ou (.inr h) (fun e=>hc e.symm)).2 hu'
    rw[hidx]at hv'
    exact hv'
end
end Go.Proofs.YtaellcgglldjaaaGreat

