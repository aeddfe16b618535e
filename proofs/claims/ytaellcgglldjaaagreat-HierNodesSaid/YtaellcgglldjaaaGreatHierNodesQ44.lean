/- Part of a proof: FarR. -/
import Derived.Test.YtaellcgglldjaaaGreatHierNodesQ10
set_option linter.all false
set_option linter.unusedVariables false
set_option linter.unusedSimpArgs false
namespace Go.Proofs.YtaellcgglldjaaaGreat
open Go.RowKit
theorem aHy {k:Nat} (hk:k<4) (x y:Int):gE x (k:Int)=x+aV k∧gA y (k:Int)=y+aU k:=by
 obtain rfl|rfl|rfl|rfl:k=0∨k=1∨k=2∨k=3:=by omega
 all_goals (constructor<;>simp[gE,gA,aV,aU]<;>omega)
section
variable (l:List Int) (W bx byy bw bh:Int)
def relD (far:Nat→Int) (x y:Int) (k:Nat):Nat→Int:=
 if bL bx byy bw bh (x+aV k) (y+aU k)=true∧far (aC W (x+aV k,y+aU k))≠aL∧far (aC W (x+aV k,y+aU k))+aO l W (x,y)<far (aC W (x,y)) then
  bZ far (aC W (x,y)) (far (aC W (x+aV k,y+aU k))+aO l W (x,y)) else far
def dU (far:Nat→Int) (x y:Int):Nat→Nat→Int
 |0=>far
 |k+1=>relD l W bx byy bw bh (dU far x y k) x y k
def eX (far:Nat→Int) (x y:Int):Nat→Int:=if aO l W (x,y)=0 then far else dU l W bx byy bw bh far x y 4
def gN (far:Nat→Int) (y:Int):Nat→Nat→Int
 |0=>far
 |m+1=>eX l W bx byy bw bh (gN far y m) (bx+m) y
def jR (far:Nat→Int):Nat→Nat→Int
 |0=>far
 |m+1=>gN l W bx byy bw bh (jR far m) (byy+m) bw.toNat
end
section
variable {l:List Int} {W H bx byy bw bh:Int}
theorem aCk (far:Nat→Int) (x y:Int) (k v:Nat):relD l W bx byy bw bh far x y k v≤far v:=by
 unfold relD
 split
 ·next h=>
  unfold bZ
  split
  ·next e=>subst e;omega
  ·exact Int.le_refl _
 ·exact Int.le_refl _
theorem pY (far:Nat→Int) (x y:Int) (v:Nat): ∀k,dU l W bx byy bw bh far x y k v≤far v
 |0=>Int.le_refl _
 |k+1=>Int.le_trans (aCk _ x y k v) (pY far x y v k)
theorem sH (far:Nat→Int) (x y:Int) (v:Nat):eX l W bx byy bw bh far x y v≤far v:=by
 unfold eX
 split
 ·exact Int.le_refl _
 ·exact pY far x y v 4
theorem nG (far:Nat→Int) (y:Int) (v:Nat): ∀m,gN l W bx byy bw bh far y m v≤far v
 |0=>Int.le_refl _
 |m+1=>Int.le_trans (sH _ _ y v) (nG far y v m)
theorem nP (far:Nat→Int) (v:Nat): ∀m,jR l W bx byy bw bh far m v≤far v
 |0=>Int.le_refl _
 |m+1=>Int.le_trans (nG _ _ v _) (nP far v m)
def jE (D far:Nat→Int):Prop:= ∀v,D v≤far v
theorem aHs (L:LandP W H l bx byy bw bh) {s:Nat} {D:Nat→Int} (F:IsFar (aK L) s D) {far:Nat→Int} (h:jE D far) {x y:Int} (hb:bL bx byy bw bh x y=true) (h0:0<aO l W (x,y)) {k:Nat} (hk:k<4) (hle: ∀v,far v≤aL):jE D (relD l W bx byy bw bh far x y k):=by
 intro v
 unfold relD
 split
 ·next hc=>
  unfold bZ
  split
  ·next e=>
   subst e
   obtain⟨c1,c2,c3⟩:=hc
   have hin:=L.in_ hb
   have huI:=L.in_ c1
   have ho:bE l W bx byy bw bh x y=true:=by unfold bE;rw[hb,decide_eq_true h0];rfl
   have hov:(aK L).op (aC W (x,y))=true:=by
    show opV _ _ _ _=true
    rw[L.opV_idx hin];exact ho
   have hu:=h (aC W (x+aV k,y+aU k))
   have hfu:=hle (aC W (x+aV k,y+aU k))
   have hfv:=hle (aC W (x,y))
   have hou:=F.open_ (v:=aC W (x+aV k,y+aU k)) (by omega)
   have hco:(aK L).cost (aC W (x,y))=aO l W (x,y):=rfl
   by_cases hs:aC W (x,y)=s
   ·rw[←hs]at F
    rw[F.start hov]
    have:=F.nn (aC W (x+aV k,y+aU k))
    omega
   ·have hadj:aC W (x+aV k,y+aU k)∈(aK L).adj (aC W (x,y)):=by
     refine List.mem_map.2 ⟨(x+aV k,y+aU k),?_,rfl⟩
     rw[dX hin.1 hin.2.1 hin.2.2.1,dZ hin.1 hin.2.1 hin.2.2.1]
     refine mem_nbC.2 ⟨k,hk,?_,rfl⟩
     have:opV (bE l W bx byy bw bh) W l.length (aC W (x+aV k,y+aU k))=true:=hou
     rw[L.opV_idx huI]at this
     exact this
    have:=F.near _ hov hs _ hadj hou (by rw[hco];omega)
    rw[hco]at this
    omega
  ·exact h v
 ·exact h v
theorem aA9 (L:LandP W H l bx byy bw bh) {s:Nat} {D:Nat→Int} (F:IsFar (aK L) s D) {far:Nat→Int} (h:jE D far) {x y:Int} (hb:bL bx byy bw bh x y=true) (h0:0<aO l W (x,y)) (hle: ∀v,far v≤aL): ∀k,k≤4→jE D (dU l W bx byy bw bh far x y k)
 |0,_=>h
 |k+1,hk=>aHs L F (aA9 L F h hb h0 hle k (by omega)) hb h0 (by omega) (fun v=>Int.le_trans (pY far x y v k) (hle v))
theorem aBb (L:LandP W H l bx byy bw bh) {s:Nat} {D:Nat→Int} (F:IsFar (aK L) s D) {far:Nat→Int} (h:jE D far) {x y:Int} (hb:bL bx byy bw bh x y=true) (hle: ∀v,far v≤aL):jE D (eX l W bx byy bw bh far x y):=by
 unfold eX
 split
 ·exact h
 ·have:=(cC L.u16 W (x,y)).1
  exact aA9 L F h hb (by omega) hle 4 (Nat.le_refl _)
theorem aHv {m j:Nat} (hm:(m:Int)<bw) (hj:(j:Int)<bh):bL bx byy bw bh (bx+m) (byy+j)=true:=hasB_true.2 (by omega)
theorem xR (L:LandP W H l bx byy bw bh) {s:Nat} {D:Nat→Int} (F:IsFar (aK L) s D) {far:Nat→Int} (h:jE D far) {j:Nat} (hj:(j:Int)<bh) (hle: ∀v,far v≤aL): ∀m:Nat,(m:Int)≤bw→jE D (gN l W bx byy bw bh far (byy+j) m)
 |0,_=>h
 |m+1,hm=>aBb L F (xR L F h hj hle m (by omega)) (aHv (by omega) hj) (fun v=>Int.le_trans (nG far _ v m) (hle v))
theorem rS (L:LandP W H l bx byy bw bh) {s:Nat} {D:Nat→Int} (F:IsFar (aK L) s D) {far:Nat→Int} (h:jE D far) (hle: ∀v,far v≤aL): ∀m:Nat,(m:Int)≤bh→jE D (jR l W bx byy bw bh far m)
 |0,_=>h
 |m+1,hm=>xR L F (rS L F h hle m (by omega)) (by omega) (fun v=>Int.le_trans (nP far v m) (hle v)) _ (by have:=(fitsR_true.1 L.fits);omega)
theorem wJ (far:Nat→Int) (x y:Int) {k:Nat} (hb:bL bx byy bw bh (x+aV k) (y+aU k)=true) (hu:far (aC W (x+aV k,y+aU k))<aL): ∀n,k<n→dU l W bx byy bw bh far x y n (aC W (x,y))≤far (aC W (x+aV k,y+aU k))+aO l W (x,y)
 |n+1,hk=>by
  by_cases e:k=n
  ·subst e
   have h1:=pY (l:=l) (W:=W) (bx:=bx) (byy:=byy) (bw:=bw) (bh:=bh) far x y (aC W (x+aV k,y+aU k)) k
   show relD l W bx byy bw bh (dU l W bx byy bw bh far x y k) x y k _≤_
   unfold relD
   split
   ·rw[cT];omega
   ·next hn=>
    have: ¬(dU l W bx byy bw bh far x y k (aC W (x+aV k,y+aU k))+aO l W (x,y)<dU l W bx byy bw bh far x y k (aC W (x,y))):=fun hlt=>hn ⟨hb,by omega,hlt⟩
    omega
  ·exact Int.le_trans (aCk _ x y n _) (wJ far x y hb hu n (by omega))
theorem vY (far:Nat→Int) (y:Int) {j k:Nat} (hk:k<4) (hc:aO l W (bx+j,y)≠0) (hb:bL bx byy bw bh (bx+j+aV k) (y+aU k)=true) (hu:far (aC W (bx+j+aV k,y+aU k))<aL): ∀m,j<m→gN l W bx byy bw bh far y m (aC W (bx+j,y))≤far (aC W (bx+j+aV k,y+aU k))+aO l W (bx+j,y)
 |m+1,hm=>by
  by_cases e:j=m
  ·subst e
   have h1:=nG (l:=l) (W:=W) (bx:=bx) (byy:=byy) (bw:=bw) (bh:=bh) far y (aC W (bx+j+aV k,y+aU k)) j
   show eX l W bx byy bw bh (gN l W bx byy bw bh far y j) (bx+j) y _≤_
   unfold eX
   rw[if_neg hc]
   exact Int.le_trans (wJ _ _ _ hb (by omega) 4 hk) (by omega)
  ·exact Int.le_trans (sH _ _ y _) (vY far y hk hc hb hu m (by omega))
theorem vB (far:Nat→Int) {i j k:Nat} (hk:k<4) (hi:(i:Int)<bw) (hc:aO l W (bx+i,byy+j)≠0) (hb:bL bx byy bw bh (bx+i+aV k) (byy+j+aU k)=true) (hu:far (aC W (bx+i+aV k,byy+j+aU k))<aL): ∀m,j<m→jR l W bx byy bw bh far m (aC W (bx+i,byy+j))≤far (aC W (bx+i+aV k,byy+j+aU k))+aO l W (bx+i,byy+j)
 |m+1,hm=>by
  by_cases e:j=m
  ·subst e
   have h1:=nP (l:=l) (W:=W) (bx:=bx) (byy:=byy) (bw:=bw) (bh:=bh) far (aC W (bx+i+aV k,byy+j+aU k)) j
   exact Int.le_trans (vY _ _ hk hc hb (by omega) bw.toNat (by omega)) (by omega)
  ·exact Int.le_trans (nG _ _ _ _) (vB far hk hi hc hb hu m (by omega))
def rnd (l:List Int) (W bx byy bw bh:Int) (far:Nat→Int):Nat→Int:=jR l W bx byy bw bh far bh.toNat
theorem aIs (L:LandP W H l bx byy bw bh) (far:Nat→Int) {u v:Nat} (hv:(aK L).op v=true) (hu:u∈(aK L).adj v) (hf:far u<aL):rnd l W bx byy bw bh far v≤far u+(aK L).cost v:=by
 obtain⟨p,hp,rfl⟩:=List.mem_map.1 hu
 obtain⟨k,hk,ho,rfl⟩:=mem_nbC.1 hp
 have hvl:=(aK L).lt v hv
 have hv':opV (bE l W bx byy bw bh) W l.length v=true:=hv
 unfold opV at hv'
 simp only[Bool.and_eq_true]at hv'
 have h1:=eS hv'.2
 have h2:=hasB_true.1 h1.1
 have hkb:=(eS ho).1
 obtain⟨i,hi⟩: ∃i:Nat,vx W v=bx+i:=⟨(vx W v-bx).toNat,by omega⟩
 obtain⟨j,hj⟩: ∃j:Nat,vy W v=byy+j:=⟨(vy W v-byy).toNat,by omega⟩
 have hid:=gD L.wh.1 v
 have hco:(aK L).cost v=aO l W (bx+i,byy+j):=by
  rw[mA,←hi,←hj,hid];rfl
 rw[hco]
 rw[hi,hj]at hf hkb h1 hid⊢
 have:=vB (l:=l) (W:=W) (bx:=bx) (byy:=byy) (bw:=bw) (bh:=bh) far (i:=i) (j:=j) hk (by omega) (by omega) hkb hf bh.toNat (by omega)
 rw[hid]at this
 exact this
theorem yC {α:Type} {p q:α→Bool}: ∀{l:List α},(∀a∈l,p a=true→q a=true)→(∃a∈l,q a=true∧p a=false)→l.countP p<l.countP q
 |[],_,⟨a,h,_⟩=>by cases h
 |b::l,hpq,⟨a,ha,hq,hp⟩=>by
  rw[List.countP_cons,List.countP_cons]
  have hmono:l.countP p≤l.countP q:=List.countP_mono_left fun x hx=>hpq x (List.mem_cons_of_mem _ hx)
  by_cases hab:a=b
  ·subst hab
   rw[hq,hp];simp;omega
  ·have hal:a∈l:=by
    rcases List.mem_cons.1 ha with h|h
    ·exact absurd h hab
    ·exact h
   have:=yC (fun x hx=>hpq x (List.mem_cons_of_mem _ hx)) ⟨a,hal,hq,hp⟩
   have hb:=hpq b List.mem_cons_self
   cases h:p b
   ·split<;>split<;>simp_all<;>omega
   ·rw[hb h];simp;omega
def pU (n:Nat) (D far:Nat→Int):Nat:=(List.range n).countP fun v=>decide (far v=D v)
theorem aGi (n:Nat) (D far:Nat→Int):pU n D far≤n:=by
 have:=List.countP_le_length (p:=fun v=>decide (far v=D v)) (l:=List.range n)
 rw[List.length_range]at this
 exact this
theorem vR (L:LandP W H l bx byy bw bh) {s:Nat} {D:Nat→Int} (F:IsFar (aK L) s D) {far:Nat→Int} (h:jE D far) (hle: ∀v,far v≤aL) (hs:far s=D s) (hne: ∃v,far v≠D v):pU l.length D far<pU l.length D (rnd l W bx byy bw bh far):=by
 have hfin: ∀v,far v≠D v→D v<aL:=fun v hv=>by
  have h1:=h v
  have h2:=hle v
  omega
 have hlow:jE D (rnd l W bx byy bw bh far):=rS L F h hle _ (by have:=(fitsR_true.1 L.fits);omega)
 obtain⟨v,hv,hmin⟩: ∃v,far v≠D v∧ ∀u,far u≠D u→D v≤D u:=by
  obtain⟨v0,h0⟩:=hne
  have: ∀k:Nat,∀v,far v≠D v→D v=(k:Int)→ ∃v,far v≠D v∧ ∀u,far u≠D u→D v≤D u:=by
   intro k
   induction k using Nat.strongRecOn with
   |_ k ih=>
    intro v hv hk
    by_cases hex: ∃u,far u≠D u∧D u<D v
    ·obtain⟨u,hu,hlt⟩:=hex
     exact ih (D u).toNat (by have:=F.nn u;omega) u hu (by have:=F.nn u;omega)
    ·exact⟨v,hv,fun u hu=>Int.not_lt.1 fun hlt=>hex ⟨u,hu,hlt⟩⟩
  exact this (D v0).toNat v0 h0 (by have:=F.nn v0;omega)
 have hvf:=hfin v hv
 have hov:=F.open_ hvf
 have hvs:v≠s:=fun e=>hv (e▸hs)
 obtain⟨u,hu,huo,he⟩:=F.from_ v hov hvs hvf
 have hc:=(aK L).pos v hov
 have huR:far u=D u:=by
  by_cases e:far u=D u
  ·exact e
  ·have:=hmin u e
   omega
 have hn:=aIs L far hov hu (by omega)
 have hlt:v<l.length:=(aK L).lt v hov
 refine yC (fun x _ hx=> ?_) ⟨v,List.mem_range.2 hlt,?_,by simpa using hv⟩
 ·simp only[decide_eq_true_eq]at hx⊢
  have h1:=nP (l:=l) (W:=W) (bx:=bx) (byy:=byy) (bw:=bw) (bh:=bh) far x bh.toNat
  have h2:=hlow x
  show jR l W bx byy bw bh far bh.toNat x=D x
  unfold rnd at h2
  omega
 ·simp only[decide_eq_true_eq]
  have h2:=hlow v
  omega
structure Rnds (D far:Nat→Int) (s n r:Nat):Prop where
 low:jE D far
 le: ∀v,far v≤aL
 at_:far s=D s
 many:(∀v,far v=D v)∨r+1≤pU n D far
theorem Rnds.start (L:LandP W H l bx byy bw bh) {s:Nat} {D:Nat→Int} (F:IsFar (aK L) s D) (ho:(aK L).op s=true):Rnds D (bZ (fun _=>aL) s 0) s l.length 0 where
 low v:=by
  unfold bZ
  split
  ·next e=>subst e;rw[F.start ho];exact Int.le_refl _
  ·exact F.le v
 le v:=by
  unfold bZ
  split
  ·decide
  ·exact Int.le_refl _
 at_:=by rw[cT,F.start ho]
 many:=by
  right
  have:0<pU l.length D (bZ (fun _=>aL) s 0):=by
   refine List.countP_pos_iff.2 ⟨s,List.mem_range.2 ((aK L).lt s ho),?_⟩
   rw[cT,F.start ho];rfl
  omega
theorem Rnds.next (L:LandP W H l bx byy bw bh) {s r:Nat} {D far:Nat→Int} (F:IsFar (aK L) s D) (h:Rnds D far s l.length r):Rnds D (rnd l W bx byy bw bh far) s l.length (r+1):=by
 have hbh:=(fitsR_true.1 L.fits)
 have hlow:jE D (rnd l W bx byy bw bh far):=rS L F h.low h.le _ (by omega)
 have hle: ∀v,rnd l W bx byy bw bh far v≤far v:=fun v=>nP far v _
 refine⟨hlow,fun v=>Int.le_trans (hle v) (h.le v),?_,?_⟩
 ·have h1:=hle s
  have h2:=hlow s
  have:=h.at_
  omega
 ·by_cases hd: ∀v,far v=D v
  ·left
   intro v
   have h1:=hle v
   have h2:=hlow v
   have:=hd v
   omega
  ·right
   have hne: ∃v,far v≠D v:=by simpa using hd
   have:=vR L F h.low h.le h.at_ hne
   rcases h.many with hm|hm
   ·exact absurd hm hd
   ·omega
theorem Rnds.still (L:LandP W H l bx byy bw bh) {s r:Nat} {D far:Nat→Int} (F:IsFar (aK L) s D) (h:Rnds D far s l.length r) (he: ∀v,rnd l W bx byy bw bh far v=far v): ∀v,far v=D v:=by
 by_cases hd: ∀v,far v=D v
 ·exact hd
 ·have hne: ∃v,far v≠D v:=by simpa using hd
  have:=vR L F h.low h.le h.at_ hne
  rw[show rnd l W bx byy bw bh far=far from funext he]at this
  omega
theorem Rnds.full {s n:Nat} {D far:Nat→Int} (h:Rnds D far s n n): ∀v,far v=D v:=by
 rcases h.many with hm|hm
 ·exact hm
 ·have:=aGi n D far
  omega
def BdT (T:Nat) (far:Nat→Int):Prop:= ∀v,0≤far v∧far v≤aL∧(far v<aL→far v≤65535*(T:Int))
theorem BdT.mono {T T':Nat} {far:Nat→Int} (h:BdT T far) (ht:T≤T'):BdT T' far:=fun v=>⟨(h v).1,(h v).2.1,fun hv=>by have:=(h v).2.2 hv;omega⟩
theorem BdT.relD (hu:cN l) {T:Nat} {far:Nat→Int} (h:BdT T far) (ht:T<100000000000) (x y:Int) (k:Nat):BdT (T+1) (relD l W bx byy bw bh far x y k):=by
 intro v
 have hc:=cC hu W (x,y)
 unfold Go.Proofs.YtaellcgglldjaaaGreat.relD
 split
 ·next hk=>
  unfold bZ
  split
  ·have h1:=h (aC W (x+aV k,y+aU k))
   have h2:=h1.2.2 (by omega)
   have e:aL=18446744073709551615:=rfl
   refine⟨by omega,by omega,fun _=>by omega⟩
  ·exact(h.mono (Nat.le_succ T)) v
 ·exact(h.mono (Nat.le_succ T)) v
theorem BdT.sum (hu:cN l) {T:Nat} {far:Nat→Int} (h:BdT T far) (ht:T<100000000000) {u:Nat} (hf:far u≠aL) (x y:Int):far u+aO l W (x,y)<18446744073709551616:=by
 have hc:=cC hu W (x,y)
 have h1:=h u
 have h2:=h1.2.2 (by omega)
 omega
end
end Go.Proofs.YtaellcgglldjaaaGreat

