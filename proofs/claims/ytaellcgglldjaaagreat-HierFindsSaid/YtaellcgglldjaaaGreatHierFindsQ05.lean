/- Part of a proof: PlawC. -/
import Derived.Test.YtaellcgglldjaaaGreatHierFindsQ04
import Derived.Test.YtaellcgglldjaaaGreatHierFindsQ03
set_option linter.all false
set_option linter.unusedVariables false
set_option linter.unusedSimpArgs false
namespace Go.Proofs.YtaellcgglldjaaaGreat
open Go.RowKit
def Left (p q:aB):Prop:=q.1=p.1+1∧q.2=p.2
def aDh (p q:aB):Prop:=q.1=p.1∧q.2=p.2+1
theorem yP {x s:Int} (hs:1≤s) (hne:(x+1)/s≠x/s):(x+1)/s=x/s+1∧(x+1)/s*s=x+1:=by
 have q1:=Int.emod_add_mul_ediv x s
 have q2:=Int.emod_lt_of_pos x (show 0<s by omega)
 have q3:0≤x% s:=Int.emod_nonneg _ (by omega)
 rw[Int.mul_comm]at q1
 by_cases h:x% s+1<s
 ·exact absurd (oT (u:=x/s) (by omega) (by omega) (by omega)) hne
 have e:(x/s+1)*s=x/s*s+s:=by rw[Int.add_mul];omega
 have:(x+1)/s=x/s+1:=oT (by omega) (by omega) (by omega)
 exact⟨this,by rw[this];omega⟩
theorem pB {W s x y:Int} (h1:0≤x/s) (h2:x/s<acr W s):ofN W s x y% acr W s=x/s∧ofN W s x y/acr W s=y/s:=by
 unfold ofN
 constructor
 ·rw[Int.add_comm,Int.add_mul_emod_self_right]
  exact Int.emod_eq_of_lt h1 h2
 rw[Int.add_comm,Int.add_mul_ediv_right _ _ (by omega),Int.ediv_eq_zero_of_lt h1 h2]
 omega
theorem aLe {W H s:Int} {p q:aB} (hr:aK W H s=true) (hp:inB W H p.1 p.2=true) (hq:inB W H q.1 q.2=true) (hl:Left p q) (hne:ofN W s p.1 p.2≠ofN W s q.1 q.2):
  ofN W s q.1 q.2=ofN W s p.1 p.2+1∧ofN W s p.1 p.2% acr W s<acr W s-1∧aR W s (ofN W s q.1 q.2)=q.1:=by
 obtain⟨h1,h2,h3,h4,h5,h6⟩:=rightB_true.1 hr
 obtain⟨_,_,_,_,i1,i2,i3,i4⟩:=inB_true.1 hp
 obtain⟨_,_,_,_,j1,j2,j3,j4⟩:=inB_true.1 hq
 obtain⟨l1,l2⟩:=hl
 have a1:=kL (W:=W) (s:=s) (by omega) i1 i2
 have a2:=Int.ediv_nonneg i1 (show 0≤s by omega)
 have b1:=kL (W:=W) (s:=s) (by omega) j1 j2
 have b2:=Int.ediv_nonneg j1 (show 0≤s by omega)
 have mp:=pB (y:=p.2) a2 a1
 have mq:=pB (y:=q.2) b2 b1
 have hne':(p.1+1)/s≠p.1/s:=by
  intro e
  apply hne
  unfold ofN
  rw[l1,l2,e]
 have dn:=yP (by omega) hne'
 rw[←l1]at dn
 refine⟨?_,?_,?_⟩
 ·unfold ofN;rw[dn.1,l2];omega
 ·rw[mp.1];omega
 unfold aR;rw[mq.1];exact dn.2
theorem aIg {W H s:Int} {p q:aB} (hr:aK W H s=true) (hp:inB W H p.1 p.2=true) (hq:inB W H q.1 q.2=true) (hl:aDh p q) (hne:ofN W s p.1 p.2≠ofN W s q.1 q.2):
  ofN W s q.1 q.2=ofN W s p.1 p.2+acr W s∧aO W s (ofN W s q.1 q.2)=q.2:=by
 obtain⟨h1,h2,h3,h4,h5,h6⟩:=rightB_true.1 hr
 obtain⟨_,_,_,_,i1,i2,i3,i4⟩:=inB_true.1 hp
 obtain⟨_,_,_,_,j1,j2,j3,j4⟩:=inB_true.1 hq
 obtain⟨l1,l2⟩:=hl
 have b1:=kL (W:=W) (s:=s) (by omega) j1 j2
 have b2:=Int.ediv_nonneg j1 (show 0≤s by omega)
 have mq:=pB (y:=q.2) b2 b1
 have hne':(p.2+1)/s≠p.2/s:=by
  intro e
  apply hne
  unfold ofN
  rw[l1,l2,e]
 have dn:=yP (by omega) hne'
 rw[←l2]at dn
 refine⟨?_,?_⟩
 ·unfold ofN;rw[dn.1,l1,Int.add_mul];omega
 unfold aO;rw[mq.2];exact dn.2
theorem aLi {b:Bool} {n x:Int}:x∈opt b n↔b=true∧x=n:=by cases b<;>simp[opt]
theorem aFx (b:Bool) (n x:Int):(opt b n).count x=if b=true∧x=n then 1 else 0:=by
 cases b
 ·simp[opt]
 simp only[opt,if_true,List.count_cons,List.count_nil,true_and]
 by_cases h:n=x
 ·simp[h]
 have h': ¬x=n:=fun e=>h e.symm
 simp[h,h']
theorem hasI_iff {l:List Int} {x:Int}:eP l x=true↔x∈l:=by simp[eP]
theorem beside_mem {W H s id x:Int}:x∈aQ W H s id↔(acr W s≤id∧x=id-acr W s)∨(id% acr W s<acr W s-1∧x=id+1)∨(id+acr W s<cnt W H s∧x=id+acr W s)∨(0<id% acr W s∧x=id-1):=by
 simp only[aQ,List.mem_append,aLi,decide_eq_true_eq]
 constructor
 ·rintro(((h|h)|h)|h)
  ·exact .inl h
  ·exact .inr (.inl h)
  ·exact .inr (.inr (.inl h))
  exact .inr (.inr (.inr h))
 rintro(h|h|h|h)
 ·exact .inl (.inl (.inl h))
 ·exact .inl (.inl (.inr h))
 ·exact .inl (.inr h)
 exact .inr h
theorem aB7 {W H s id x:Int} (ha:1≤acr W s) (h:x∈aQ W H s id):(aQ W H s id).count x=1:=by
 rw[beside_mem]at h
 have m0:0≤id% acr W s:=Int.emod_nonneg _ (by omega)
 have m1:=Int.emod_lt_of_pos id (show 0<acr W s by omega)
 simp only[aQ,List.count_append,aFx,decide_eq_true_eq]
 generalize acr W s=a at *
 generalize id% a=m at *
 rcases h with h|h|h|h
 all_goals
  (repeat' split)<;>omega
theorem aAj (X Y:Int) (n k:Nat) (h:k<n):(iJ X Y n)[k]? =some ((X-1,Y+(k:Int)),(X,Y+(k:Int))):=by
 simp[iJ,List.getElem?_map,List.getElem?_range h]
theorem aD4 (X Y:Int) (n k:Nat) (h:k<n):(lK X Y n)[k]? =some ((X+(k:Int),Y-1),(X+(k:Int),Y)):=by
 simp[lK,List.getElem?_map,List.getElem?_range h]
theorem oE {W H s:Int} (hr:aK W H s=true) {id:Int} (h0:0≤id) (hid:id<cnt W H s) {x y:Int} (hx:aR W s id≤x∧x<aR W s id+aZ W s id) (hy:aO W s id≤y∧y<aO W s id+bA W H s id):
  inB W H x y=true∧ofN W s x y=id:=by
 obtain⟨h1,h2,h3,h4,h5,h6⟩:=rightB_true.1 hr
 have bb:=eM hr h0 hid
 have hh:dE x y (bJ W H s id)=true:=by
  unfold dE bJ;rw[hasB_true];exact⟨hx.1,hx.2,hy.1,hy.2⟩
 unfold aZ at hx
 unfold bA at hy
 have hin:inB W H x y=true:=inB_true.2 ⟨by omega,by omega,by omega,by omega,by omega,by omega,by omega,by omega⟩
 exact⟨hin,((kB hr hin h0 hid).1 hh).symm⟩
structure Pair (W H s lo hi:Int):Prop where
 lo0:0≤lo
 hi1:hi<cnt W H s
 way:(hi=lo+1∧lo% acr W s<acr W s-1)∨hi=lo+acr W s
theorem Pair.lt {W H s lo hi:Int} (hr:aK W H s=true) (h:Pair W H s lo hi):lo<hi:=by
 obtain⟨h1,h2,h3,h4,h5,h6⟩:=rightB_true.1 hr
 have b1:=bU W s h5 h6 h1 h2
 rcases h.way with h|h<;>omega
theorem Pair.right {W H s lo:Int} (hr:aK W H s=true) (h0:0≤lo) (hw:lo% acr W s<acr W s-1):
  aR W s (lo+1)=aR W s lo+s∧aO W s (lo+1)=aO W s lo:=by
 obtain⟨h1,h2,h3,h4,h5,h6⟩:=rightB_true.1 hr
 have b1:=bU W s h5 h6 h1 h2
 have e:=Int.emod_add_mul_ediv lo (acr W s)
 have m0:0≤lo% acr W s:=Int.emod_nonneg _ (by omega)
 have hm:(lo+1)% acr W s=lo% acr W s+1:=by
  have:lo+1=(lo% acr W s+1)+acr W s*(lo/acr W s):=by omega
  rw[this,Int.add_mul_emod_self_left]
  exact Int.emod_eq_of_lt (by omega) (by omega)
 have hd:(lo+1)/acr W s=lo/acr W s:=by
  have:lo+1=(lo% acr W s+1)+acr W s*(lo/acr W s):=by omega
  rw[this,Int.add_mul_ediv_left _ _ (by omega),Int.ediv_eq_zero_of_lt (by omega) (by omega)]
  omega
 unfold aR aO
 rw[hm,hd,Int.add_mul]
 omega
theorem Pair.low {W H s lo:Int} (hr:aK W H s=true):aR W s (lo+acr W s)=aR W s lo∧aO W s (lo+acr W s)=aO W s lo+s:=by
 obtain⟨h1,h2,h3,h4,h5,h6⟩:=rightB_true.1 hr
 have b1:=bU W s h5 h6 h1 h2
 unfold aR aO
 have hm:(lo+acr W s)% acr W s=lo% acr W s:=Int.add_emod_right _ _
 have hd:(lo+acr W s)/acr W s=lo/acr W s+1:=by
  have:=Int.add_mul_ediv_right lo 1 (show acr W s≠0 by omega)
  rwa [Int.one_mul]at this
 rw[hm,hd,Int.add_mul]
 omega
theorem vM {W H s lo hi:Int} (hr:aK W H s=true) (h:Pair W H s lo hi) {k:Nat} {p:aB×aB} (hk:(bI W H s lo hi)[k]? =some p):
  inB W H p.1.1 p.1.2=true∧inB W H p.2.1 p.2.2=true∧ofN W s p.1.1 p.1.2=lo∧ofN W s p.2.1 p.2.2=hi∧
  ((hi=lo+1∧lo% acr W s<acr W s-1∧p=((aR W s hi-1,aO W s lo+(k:Int)),(aR W s hi,aO W s lo+(k:Int)))∧(k:Int)<bA W H s lo)∨
   (aO W s lo≠aO W s hi∧p=((aR W s lo+(k:Int),aO W s hi-1),(aR W s lo+(k:Int),aO W s hi))∧(k:Int)<aZ W s lo)):=by
 obtain⟨h1,h2,h3,h4,h5,h6⟩:=rightB_true.1 hr
 have b1:=bU W s h5 h6 h1 h2
 have hlt:=h.lt hr
 have zl:=fJ hr h.lo0 (by have:=h.hi1;omega)
 have zh:=fJ hr (id:=hi) (by have:=h.lo0;omega) h.hi1
 have bl:=eM hr h.lo0 (by have:=h.hi1;omega)
 have bh:=eM hr (id:=hi) (by have:=h.lo0;omega) h.hi1
 by_cases hrow:aO W s lo=aO W s hi
 ·rcases h.way with⟨e,hw⟩|e
  ·have pr:=Pair.right hr h.lo0 hw
   rw[←e]at pr
   unfold bI at hk
   rw[if_pos hrow]at hk
   have hkn:k<(bA W H s lo).toNat:=by
    have:=(zJ hk).1
    rwa [jB]at this
   rw[aAj _ _ _ _ hkn]at hk
   have hp:=(Option.some.inj hk).symm
   subst hp
   have hkH:(k:Int)<bA W H s lo:=by omega
   have A:=oE hr h.lo0 (by have:=h.hi1;omega) (x:=aR W s hi-1) (y:=aO W s lo+(k:Int)) ⟨by omega,by unfold aZ;omega⟩ ⟨by omega,by omega⟩
   have B:=oE hr (id:=hi) (by have:=h.lo0;omega) h.hi1 (x:=aR W s hi) (y:=aO W s lo+(k:Int)) ⟨by omega,by omega⟩ ⟨by omega,by unfold bA at hkH⊢;rw[←hrow];omega⟩
   exact⟨A.1,B.1,A.2,B.2, .inl ⟨e,hw,rfl,hkH⟩⟩
  have pl:=Pair.low (lo:=lo) hr
  rw[←e]at pl
  omega
 have e:hi=lo+acr W s:=by
  rcases h.way with⟨e,hw⟩|e
  ·have pr:=Pair.right hr h.lo0 hw
   rw[←e]at pr
   exact absurd pr.2.symm hrow
  exact e
 have pl:=Pair.low (lo:=lo) hr
 rw[←e]at pl
 unfold bI at hk
 rw[if_neg hrow]at hk
 have hkn:k<(aZ W s lo).toNat:=by
  have:=(zJ hk).1
  rwa [kE]at this
 rw[aD4 _ _ _ _ hkn]at hk
 have hp:=(Option.some.inj hk).symm
 subst hp
 have hkW:(k:Int)<aZ W s lo:=by omega
 have A:=oE hr h.lo0 (by have:=h.hi1;omega) (x:=aR W s lo+(k:Int)) (y:=aO W s hi-1) ⟨by omega,by omega⟩ ⟨by omega,by unfold bA;omega⟩
 have B:=oE hr (id:=hi) (by have:=h.lo0;omega) h.hi1 (x:=aR W s lo+(k:Int)) (y:=aO W s hi) ⟨by omega,by unfold aZ at hkW⊢;rw[pl.1];omega⟩ ⟨by omega,by omega⟩
 exact⟨A.1,B.1,A.2,B.2, .inr ⟨hrow,rfl,hkW⟩⟩
theorem aCi {W H s:Int} {p:aB} (hr:aK W H s=true) (hp:inB W H p.1 p.2=true):
  aR W s (ofN W s p.1 p.2)≤p.1∧p.1<aR W s (ofN W s p.1 p.2)+aZ W s (ofN W s p.1 p.2)∧aO W s (ofN W s p.1 p.2)≤p.2∧p.2<aO W s (ofN W s p.1 p.2)+bA W H s (ofN W s p.1 p.2):=by
 have ob:=iF hr hp
 have h:=(kB hr hp ob.1 ob.2).2 rfl
 unfold dE bJ at h
 exact hasB_true.1 h
theorem aDo {W H s:Int} {p q:aB} (hr:aK W H s=true) (hp:inB W H p.1 p.2=true) (hq:inB W H q.1 q.2=true) (hl:Left p q∨aDh p q) (hne:ofN W s p.1 p.2≠ofN W s q.1 q.2):
  Pair W H s (ofN W s p.1 p.2) (ofN W s q.1 q.2)∧ ∃k0:Nat,k0<(bI W H s (ofN W s p.1 p.2) (ofN W s q.1 q.2)).length∧ ∀(j:Nat) (r:aB×aB),(bI W H s (ofN W s p.1 p.2) (ofN W s q.1 q.2))[j]? =some r→(r=(p,q)↔j=k0):=by
 obtain⟨h1,h2,h3,h4,h5,h6⟩:=rightB_true.1 hr
 have b1:=bU W s h5 h6 h1 h2
 have op:=iF hr hp
 have oq:=iF hr hq
 have bp:=aCi hr hp
 have bq:=aCi hr hq
 obtain⟨p1,p2⟩:=p
 obtain⟨q1,q2⟩:=q
 rcases hl with hl|hl
 ·have lf:=aLe hr hp hq hl hne
  obtain⟨l1,l2⟩:=hl
  simp only at *
  generalize hlo:ofN W s p1 p2=lo at *
  generalize hhi:ofN W s q1 q2=hi at *
  obtain⟨e,hw,hX⟩:=lf
  have pr:=Pair.right hr op.1 hw
  rw[←e]at pr
  have hrow:aO W s lo=aO W s hi:=pr.2.symm
  refine⟨⟨op.1,oq.2, .inl ⟨e,hw⟩⟩,(p2-aO W s lo).toNat,?_,?_⟩
  ·unfold bI
   rw[if_pos hrow,jB]
   omega
  intro j r hj
  unfold bI at hj
  rw[if_pos hrow]at hj
  have hjn:j<(bA W H s lo).toNat:=by
   have:=(zJ hj).1
   rwa [jB]at this
  rw[aAj _ _ _ _ hjn]at hj
  have hr':=(Option.some.inj hj).symm
  subst hr'
  simp only[Prod.mk.injEq]
  omega
 have lf:=aIg hr hp hq hl hne
 obtain⟨l1,l2⟩:=hl
 simp only at *
 generalize hlo:ofN W s p1 p2=lo at *
 generalize hhi:ofN W s q1 q2=hi at *
 obtain⟨e,hY⟩:=lf
 have pl:=Pair.low (lo:=lo) hr
 rw[←e]at pl
 have hrow: ¬aO W s lo=aO W s hi:=by omega
 refine⟨⟨op.1,oq.2, .inr e⟩,(p1-aR W s lo).toNat,?_,?_⟩
 ·unfold bI
  rw[if_neg hrow,kE]
  omega
 intro j r hj
 unfold bI at hj
 rw[if_neg hrow]at hj
 have hjn:j<(aZ W s lo).toNat:=by
  have:=(zJ hj).1
  rwa [kE]at this
 rw[aD4 _ _ _ _ hjn]at hj
 have hr':=(Option.some.inj hj).symm
 subst hr'
 simp only[Prod.mk.injEq]
 omega
theorem Pair.mem {W H s lo hi:Int} (hr:aK W H s=true) (h:Pair W H s lo hi):hi∈aQ W H s lo∧lo∈aQ W H s hi:=by
 obtain⟨h1,h2,h3,h4,h5,h6⟩:=rightB_true.1 hr
 have b1:=bU W s h5 h6 h1 h2
 have hlt:=h.lt hr
 have h0:=h.lo0
 have h7:=h.hi1
 rw[beside_mem,beside_mem]
 rcases h.way with⟨e,hw⟩|e
 ·refine⟨.inr (.inl ⟨hw,e⟩), .inr (.inr (.inr ⟨?_,by omega⟩))⟩
  have e':=Int.emod_add_mul_ediv lo (acr W s)
  have m0:0≤lo% acr W s:=Int.emod_nonneg _ (by omega)
  have:hi=(lo% acr W s+1)+acr W s*(lo/acr W s):=by omega
  rw[this,Int.add_mul_emod_self_left,Int.emod_eq_of_lt (by omega) (by omega)]
  omega
 exact⟨.inr (.inr (.inl ⟨by omega,e⟩)), .inl ⟨by omega,by omega⟩⟩
theorem fV {W H s id:Int} (hr:aK W H s=true):eP (aQ W H s id) id=false:=by
 obtain⟨h1,h2,h3,h4,h5,h6⟩:=rightB_true.1 hr
 have b1:=bU W s h5 h6 h1 h2
 cases h:eP (aQ W H s id) id
 ·rfl
 rw[hasI_iff,beside_mem]at h
 omega
theorem nM {W H s lo hi:Int} (hr:aK W H s=true) (h0:0≤lo) (h1:lo<cnt W H s):(bI W H s lo hi).length≤16:=by
 have z:=fJ hr h0 h1
 unfold bI
 split
 ·rw[jB];omega
 rw[kE];omega
def sX (b:aB×aB) (x y:Int) (d:Nat):List (aB×aB):=if dE (gU x (d:Int)) (gV y (d:Int)) b=true then[((x,y),(gU x (d:Int),gV y (d:Int)))] else[]
def eT (b:aB×aB) (x y:Int) (m:Nat):List (aB×aB):=(List.range m).flatMap fun d=>sX b x y (d+1)
def iM (b:aB×aB) (x0 y:Int) (n:Nat):List (aB×aB):=(List.range n).flatMap fun i:Nat=>eT b (x0+(i:Int)) y 2
def lG (b:aB×aB) (x0 y0:Int) (wd n:Nat):List (aB×aB):=(List.range n).flatMap fun j:Nat=>iM b x0 (y0+(j:Int)) wd
theorem aFj (b:aB×aB) (x y:Int) (d:Nat):(sX b x y d).length≤1:=by unfold sX;split<;>simp
theorem lU (b:aB×aB) (x y:Int) (m:Nat):eT b x y (m+1)=eT b x y m++sX b x y (m+1):=by simp[eT,List.range_succ]
theorem vK (b:aB×aB) (x0 y:Int) (n:Nat):iM b x0 y (n+1)=iM b x0 y n++eT b (x0+(n:Int)) y 2:=by simp[iM,List.range_succ]
theorem vI (b:aB×aB) (x0 y0:Int) (wd n:Nat):lG b x0 y0 wd (n+1)=lG b x0 y0 wd n++iM b x0 (y0+(n:Int)) wd:=by simp[lG,List.range_succ]
theorem vJ (b:aB×aB) (x y:Int) (m:Nat):(eT b x y m).length≤m:=by
 induction m with
 |zero=>simp[eT]
 |succ n ih=>rw[lU,List.length_append];have:=aFj b x y (n+1);omega
theorem yB (b:aB×aB) (x0 y:Int) (n:Nat):(iM b x0 y n).length≤2*n:=by
 induction n with
 |zero=>simp[iM]
 |succ n ih=>rw[vK,List.length_append];have:=vJ b (x0+(n:Int)) y 2;omega
theorem aIj (b:aB×aB) (x0 y0:Int) (wd n:Nat):(lG b x0 y0 wd n).length≤2*wd*n:=by
 induction n with
 |zero=>simp[lG]
 |succ n ih=>rw[vI,List.length_append,Nat.mul_succ];have:=yB b x0 (y0+(n:Int)) wd;omega
theorem oY {α:Type} {f:Nat→List α} (n:Nat) (h: ∀i,i<n→f i=[]):(List.range n).flatMap f=[]:=by
 induction n with
 |zero=>simp
 |succ n ih=>rw[List.range_succ,List.flatMap_append,ih (fun i hi=>h i (by omega))];simp[h n (by omega)]
theorem vS {α:Type} {f:Nat→List α} (n:Nat) (h: ∀i,i<n→f i=[]):(List.range (n+1)).flatMap f=f n:=by
 rw[List.range_succ,List.flatMap_append,oY n h];simp
theorem yW {α:Type} {f:Nat→List α} {g:Nat→α} (n:Nat) (h: ∀i,i<n→f i=[g i]):(List.range n).flatMap f=(List.range n).map g:=by
 induction n with
 |zero=>simp
 |succ n ih=>rw[List.range_succ,List.flatMap_append,ih (fun i hi=>h i (by omega))];simp[h n (by omega)]
theorem kT (b:aB×aB) (x y:Int):eT b x y 2=(if dE (x+1) y b=true then[((x,y),(x+1,y))] else[])++(if dE x (y+1) b=true then[((x,y),(x,y+1))] else[]):=by
 rw[lU,lU];rfl
theorem aCy {W H s x y hi:Int} (h:dE x y (bJ W H s hi)=true):(aR W s hi≤x∧x<aR W s hi+aZ W s hi)∧(aO W s hi≤y∧y<aO W s hi+bA W H s hi):=by
 unfold dE bJ at h;have:=hasB_true.1 h;simp only at this;omega
theorem aCx {W H s x y hi:Int} (h:(aR W s hi≤x∧x<aR W s hi+aZ W s hi)∧(aO W s hi≤y∧y<aO W s hi+bA W H s hi)):dE x y (bJ W H s hi)=true:=by
 unfold dE bJ;refine hasB_true.2 ?_;simp only;omega
theorem mB {W H s x y hi:Int} (h: ¬((aR W s hi≤x∧x<aR W s hi+aZ W s hi)∧(aO W s hi≤y∧y<aO W s hi+bA W H s hi))):dE x y (bJ W H s hi)=false:=by
 cases hh:dE x y (bJ W H s hi)
 ·rfl
 exact absurd (aCy hh) h
theorem lB {W H s lo hi:Int} (hr:aK W H s=true) (h0:0≤lo) (hlt:lo<hi) (hid:hi<cnt W H s):eP (aQ W H s lo) hi=true↔Pair W H s lo hi:=by
 obtain⟨h1,h2,h3,h4,h5,h6⟩:=rightB_true.1 hr
 have b1:=bU W s h5 h6 h1 h2
 rw[hasI_iff,beside_mem]
 constructor
 ·rintro(h|h|h|h)
  ·omega
  ·exact⟨h0,hid, .inl ⟨h.2,h.1⟩⟩
  ·exact⟨h0,hid, .inr h.2⟩
  omega
 intro h
 rcases h.way with h'|h'
 ·exact .inr (.inl ⟨h'.2,h'.1⟩)
 exact .inr (.inr (.inl ⟨by omega,h'⟩))
theorem aB4 {W H s lo hi:Int} (hr:aK W H s=true) (h0:0≤lo) (hlt:lo<hi) (hid:hi<cnt W H s):
  lG (bJ W H s hi) (aR W s lo) (aO W s lo) (aZ W s lo).toNat (bA W H s lo).toNat=if eP (aQ W H s lo) hi=true then bI W H s lo hi else[]:=by
 obtain⟨h1,h2,h3,h4,h5,h6⟩:=rightB_true.1 hr
 have b1:=bU W s h5 h6 h1 h2
 have bl:=eM hr h0 (by omega)
 have zl:=fJ hr h0 (show lo<cnt W H s by omega)
 have bh:=eM hr (show 0≤hi by omega) hid
 have zh:=fJ hr (show 0≤hi by omega) hid
 by_cases hP:Pair W H s lo hi
 ·rw[if_pos ((lB hr h0 hlt hid).2 hP)]
  rcases hP.way with⟨e,hw⟩|e
  ·have pr:=Pair.right hr h0 hw
   rw[←e]at pr
   have hW:aZ W s lo=s:=by unfold aZ;omega
   have hHH:bA W H s hi=bA W H s lo:=by unfold bA;rw[pr.2]
   unfold bI
   rw[if_pos pr.2.symm]
   unfold lG iJ
   refine yW (f:=fun j:Nat=>iM (bJ W H s hi) (aR W s lo) (aO W s lo+(j:Int)) (aZ W s lo).toNat) _ (fun j hj=> ?_)
   obtain⟨n,hn⟩: ∃n:Nat,(aZ W s lo).toNat=n+1:=⟨(aZ W s lo).toNat-1,by omega⟩
   rw[hn]
   unfold iM
   rw[vS (f:=fun i:Nat=>eT (bJ W H s hi) (aR W s lo+(i:Int)) (aO W s lo+(j:Int)) 2)]
   ·rw[kT,if_pos (aCx ⟨⟨by omega,by omega⟩,by omega,by omega⟩),if_neg (by rw[mB (by omega)];simp),List.append_nil]
    simp only[List.cons.injEq,Prod.mk.injEq,and_true,true_and]
    omega
   intro i hi'
   rw[kT,if_neg (by rw[mB (by omega)];simp),if_neg (by rw[mB (by omega)];simp),List.append_nil]
  have pl:=Pair.low (lo:=lo) hr
  rw[←e]at pl
  have hH:bA W H s lo=s:=by unfold bA;omega
  have hWW:aZ W s hi=aZ W s lo:=by unfold aZ;rw[pl.1]
  unfold bI
  rw[if_neg (by omega)]
  unfold lG lK
  obtain⟨n,hn⟩: ∃n:Nat,(bA W H s lo).toNat=n+1:=⟨(bA W H s lo).toNat-1,by omega⟩
  rw[hn]
  rw[vS (f:=fun j:Nat=>iM (bJ W H s hi) (aR W s lo) (aO W s lo+(j:Int)) (aZ W s lo).toNat)]
  ·unfold iM
   refine yW (f:=fun i:Nat=>eT (bJ W H s hi) (aR W s lo+(i:Int)) (aO W s lo+(n:Int)) 2) _ (fun i hi'=> ?_)
   rw[kT,if_neg (by rw[mB (by omega)];simp),if_pos (aCx ⟨⟨by omega,by omega⟩,by omega,by omega⟩),List.nil_append]
   simp only[List.cons.injEq,Prod.mk.injEq,and_true,true_and]
   omega
  intro j hj
  unfold iM
  refine oY _ (fun i hi'=> ?_)
  rw[kT,if_neg (by rw[mB (by omega)];simp),if_neg (by rw[mB (by omega)];simp),List.append_nil]
 rw[if_neg (fun h=>hP ((lB hr h0 hlt hid).1 h))]
 refine oY _ (fun j hj=>oY _ (fun i hi'=> ?_))
 have hc:=oE hr h0 (by omega) (x:=aR W s lo+(i:Int)) (y:=aO W s lo+(j:Int)) ⟨by omega,by omega⟩ ⟨by omega,by omega⟩
 have no: ∀q:aB,Left (aR W s lo+(i:Int),aO W s lo+(j:Int)) q∨aDh (aR W s lo+(i:Int),aO W s lo+(j:Int)) q→dE q.1 q.2 (bJ W H s hi)=false:=by
  intro q hq
  cases hh:dE q.1 q.2 (bJ W H s hi)
  ·rfl
  have hb:=aCy hh
  have hq':=oE hr (show 0≤hi by omega) hid hb.1 hb.2
  have:=(aDo (p:=(aR W s lo+(i:Int),aO W s lo+(j:Int))) hr hc.1 hq'.1 hq (by rw[hc.2,hq'.2];omega)).1
  rw[hc.2,hq'.2]at this
  exact absurd this hP
 rw[kT,if_neg (by rw[no (aR W s lo+(i:Int)+1,aO W s lo+(j:Int)) (.inl ⟨rfl,rfl⟩)];simp),if_neg (by rw[no (aR W s lo+(i:Int),aO W s lo+(j:Int)+1) (.inr ⟨rfl,rfl⟩)];simp),List.append_nil]
theorem aDj (b:aB×aB) (x y:Int) (m:Nat):eT b x y (m+1)=eT b x y m++if dE (gU x ((m:Int)+1)) (gV y ((m:Int)+1)) b=true then[((x,y),(gU x ((m:Int)+1),gV y ((m:Int)+1)))] else[]:=by
 rw[lU];simp[sX]
theorem aI3 (x y d:Int):x-1≤gU x d∧gU x d≤x+1∧y-1≤gV y d∧gV y d≤y+1:=by
 unfold gU gV
 (repeat' split)<;>omega
theorem Below.drewN' {q:Nat} {a b:World} (h:Below q a b) (n:Nat):Below q a (b.drewN n):=⟨h.os,h.tape,h.output,h.size,fun k hk=>h.block k hk⟩
theorem Own.drewN {α:Type} {E:Enc α} {w:World} {base:Nat} {e:TypeId} {v:Value} {l:List α} (h:Own E w base e v l) (n:Nat):Own E (w.drewN n) base e v l:=h
def pQ (w:World) (L:List (aB×aB)) (e:Ending) (w':World):Prop:= ∃v,e= .returned v∧Ext w w'∧Own aT w' w.heap.size 225 v L
theorem aA5 (v:Value) (a:Int) (w:World):Calls Tryz.prog 94 #[v, .int .i64 a, .int .i64 a] w (pQ w []):=by
 go_enter Tryz.func94,Tryz.ntmps94
 go_wp2
 go_ret
 exact⟨_,rfl,z_x,Own.lit0 _ _ _ _ _ rfl (Nat.le_refl _)⟩
set_option maxRecDepth 100000 in
set_option maxHeartbeats 4000000 in
theorem aBz (g c:Nat) (l:List (aB×aB)) (a b:Nat) (Ax Ay Bx By Bw Bh:Int) (aw ah:Nat) (w:World) (hl:l.length≤1000000) (hr:Reads aT w (.slice (some ⟨g,0,none⟩) l.length c) l)
  (hne:a≠b) (hA:l[min a b]? =some ((Ax,Ay),((aw:Int),(ah:Int)))) (hB:l[max a b]? =some ((Bx,By),(Bw,Bh)))
  (hb:0≤Ax∧Ax≤1000∧0≤Ay∧Ay≤1000∧aw≤16∧ah≤16∧0≤Bx∧0≤By):
  Calls Tryz.prog 94 #[.slice (some ⟨g,0,none⟩) l.length c, .int .i64 (a:Int), .int .i64 (b:Int)] w (pQ w (lG ((Bx,By),(Bw,Bh)) Ax Ay aw ah)):=by
 have ha1:=(zJ hA).1
 have hb1:=(zJ hB).1
 obtain⟨c1,c2,c3,c4⟩:=hr.pair_at hA
 obtain⟨e1,e2,e3,e4⟩:=hr.pair_at hB
 have zg:=hr.pairs.1
 have HNE:=aA hne
 obtain⟨lo,hlo⟩: ∃lo:Nat,lo=min a b:=⟨_,rfl⟩
 obtain⟨hi,hhi⟩: ∃hi:Nat,hi=max a b:=⟨_,rfl⟩
 rw[←hlo]at ha1 c1 c2 c3 c4
 rw[←hhi]at hb1 e1 e2 e3 e4
 simp only at c1 c2 c3 c4 e1 e2 e3 e4
 have HLO:=aA hlo
 have HHI:=aA hhi
 have hneB:((a:Int)==(b:Int))=false:=by simp;omega
 have hab:a<1000000:=by omega
 have hbb:b<1000000:=by omega
 clear hne hA hB hr hlo hhi
 obtain⟨w0,hw0⟩: ∃w0,w0=w.alloc (.cells #[] 225):=⟨_,rfl⟩
 have hx0:Ext w w0:=by rw[hw0];exact z_x
 have O0:=aA (show Own aT w0 w.heap.size 225 (.slice (some ⟨w.heap.size,0,none⟩) 0 0) [] by rw[hw0];exact Own.lit0 _ _ _ _ _ rfl (Nat.le_refl _))
 have HW0:=aA hw0
 clear hw0
 go_enter Tryz.func94,Tryz.ntmps94
 go_upto_if 20 with(fail)
 rw[←HW0.out]
 go_cut [1,2] (fun s1 s2 wx=>s1= .int .i64 (lo:Int)∧s2= .int .i64 (hi:Int)∧w0=wx)
 case first=>
  rcases Nat.lt_or_gt_of_ne HNE.out with hlt|hlt
  all_goals
   go_wp2
   go_meet
   exact⟨by have:=HLO.out;congr 1;omega,by have:=HHI.out;congr 1;omega,rfl⟩
 obtain⟨rfl,rfl,rfl⟩:=hcut
 have hz0:=hx0.size
 have HE:=aA (show _∧_∧_∧_ from⟨e1,e2,e3,e4⟩)
 have HC:=aA (show _∧_∧_∧_ from⟨c1,c2,c3,c4⟩)
 have d2:=(hx0.cell (p:=⟨g,lo*4+1,none⟩) zg).trans c2
 clear c1 c2 c3 c4 e1 e2 e3 e4
 have g0:(0:Int)≤(lo:Int):=by omega
 have g1:(lo:Int)<(l.length:Int):=by omega
 have g2:(0:Int)≤(hi:Int):=by omega
 have g3:(hi:Int)<(l.length:Int):=by omega
 have hbase:w.heap.size<w0.heap.size∨w.heap.size≤w0.heap.size:= .inr hz0
 go_wp2
 go_loopw [7,8] (fun out y wr=> ∃j:Nat,j≤ah∧y= .int .i64 (Ay+(j:Int))∧Own aT wr w.heap.size 225 out (lG ((Bx,By),(Bw,Bh)) Ax Ay aw j)∧Below w.heap.size w0 wr) (fun _ y _=>ah-(intOf y-Ay).toNat)
 case atStart=>exact⟨0,Nat.zero_le _,by simp,O0.out,Below.refl _ _⟩
 obtain⟨j,hj,rfl,hown,hbel⟩:=hrel
 have HO:=aA hown
 clear hown d2
 have hz:=hbel.size
 have hxr:Ext w wr:=hx0.of_below hbel (Nat.le_refl _)
 obtain⟨c1,c2,c3,c4⟩:=HC.out
 have d1:=(hxr.cell (p:=⟨g,lo*4,none⟩) zg).trans c1
 have d2:=(hxr.cell (p:=⟨g,lo*4+1,none⟩) zg).trans c2
 have d3:=(hxr.cell (p:=⟨g,lo*4+2,none⟩) zg).trans c3
 have d4:=(hxr.cell (p:=⟨g,lo*4+3,none⟩) zg).trans c4
 clear c1 c2 c3 c4
 have zr:g<wr.heap.size:=by omega
 by_cases hlt:j<ah
 ·have k1:Ay+(j:Int)<Ay+(ah:Int):=by omega
  go_wp2
  go_quiet (fail)
  go_wp2
  obtain⟨wo,hwo⟩: ∃wo,wo=wr.drewN nq:=⟨_,rfl⟩
  rw[←hwo]
  have bo:Below w.heap.size w0 wo:=by rw[hwo];exact Below.drewN' hbel _
  have OO:=aA (show Own aT wo w.heap.size 225 _ _ by rw[hwo];exact HO.out.drewN _)
  have lj:=aIj ((Bx,By),(Bw,Bh)) Ax Ay aw j
  have lj':2*aw*j≤2*16*16:=Nat.mul_le_mul (by omega) (by omega)
  have hzo:=bo.size
  have HJ:=aA (vI ((Bx,By),(Bw,Bh)) Ax Ay aw j)
  obtain⟨y,hy⟩: ∃y:Int,y=Ay+(j:Int):=⟨_,rfl⟩
  rw[←hy]at k1⊢
  have yb:0≤y∧y≤2000:=by omega
  have HY:=aA hy
  clear hy d1 d2 d3 d4 hwo hz hxr zr HO
  generalize hL:lG ((Bx,By),(Bw,Bh)) Ax Ay aw j=L at *
  clear hL
  go_loopw [7,9] (fun out x wr=> ∃i:Nat,i≤aw∧x= .int .i64 (Ax+(i:Int))∧Own aT wr w.heap.size 225 out (L++iM ((Bx,By),(Bw,Bh)) Ax y i)∧Below w.heap.size wo wr) (fun _ x _=>aw-(intOf x-Ax).toNat)
  case atStart=>exact⟨0,Nat.zero_le _,by simp,by simpa [iM] using OO.out,Below.refl _ _⟩
  obtain⟨i,hi',rfl,hown,hbel⟩:=hrel
  have HO:=aA hown
  clear hown
  have hz:=hbel.size
  have hxr:Ext w wr:=hx0.of_below (bo.trans hbel) (Nat.le_refl _)
  obtain⟨c1,c2,c3,c4⟩:=HC.out
  have d1:=(hxr.cell (p:=⟨g,lo*4,none⟩) zg).trans c1
  have d3:=(hxr.cell (p:=⟨g,lo*4+2,none⟩) zg).trans c3
  clear c1 c2 c3 c4
  by_cases hlt:i<aw
  ·have k2:Ax+(i:Int)<Ax+(aw:Int):=by omega
   go_wp2
   go_quiet (fail)
   go_wp2
   obtain⟨wp,hwp⟩: ∃wp,wp=wr.drewN nq:=⟨_,rfl⟩
   rw[←hwp]
   have bp:Below w.heap.size wo wp:=by rw[hwp];exact Below.drewN' hbel _
   have OP:=aA (show Own aT wp w.heap.size 225 _ _ by rw[hwp];exact HO.out.drewN _)
   have li:=yB ((Bx,By),(Bw,Bh)) Ax y i
   have hzp:=bp.size
   have HI:=aA (vK ((Bx,By),(Bw,Bh)) Ax y i)
   obtain⟨x,hx⟩: ∃x:Int,x=Ax+(i:Int):=⟨_,rfl⟩
   rw[←hx]at k2⊢
   have xb:0≤x∧x≤2000:=by omega
   have HX:=aA hx
   clear hx d1 d3 hwp hz hxr HO
   obtain⟨M,hM⟩: ∃M,M=L++iM ((Bx,By),(Bw,Bh)) Ax y i:=⟨_,rfl⟩
   have lM:M.length≤1000:=by rw[hM,List.length_append];omega
   rw[←hM]at OP
   have HM:=aA hM
   clear hM
   go_loopw [7,10] (fun out d wr=> ∃m:Nat,m≤2∧d= .int .i64 ((m:Int)+1)∧Own aT wr w.heap.size 225 out (M++eT ((Bx,By),(Bw,Bh)) x y m)∧Below w.heap.size wp wr) (fun _ d _=>3-(intOf d).toNat)
   case atStart=>exact⟨0,Nat.zero_le _,by simp,by simpa [eT] using OP.out,Below.refl _ _⟩
   obtain⟨m,hm,rfl,hown,hbel'⟩:=hrel
   have HO:=aA hown
   clear hown
   have hz:=hbel'.size
   have hxr:Ext w wr:=hx0.of_below ((bo.trans bp).trans hbel') (Nat.le_refl _)
   have lm:=vJ ((Bx,By),(Bw,Bh)) x y m
   by_cases hlt':m<2
   ·have sn:=aI3 x y ((m:Int)+1)
    have hstep:=fun w=>qJ x y ((m:Int)+1) w (by omega) (by omega)
    have HD:=aDj ((Bx,By),(Bw,Bh)) x y m
    generalize hnx:gU x ((m:Int)+1)=nx at *
    generalize hny:gV y ((m:Int)+1)=ny at *
    clear hnx hny
    have HST:=aA hstep
    clear hstep
    obtain⟨e1,e2,e3,e4⟩:=HE.out
    have f1:=(hxr.cell (p:=⟨g,hi*4,none⟩) zg).trans e1
    have f2:=(hxr.cell (p:=⟨g,hi*4+1,none⟩) zg).trans e2
    have f3:=(hxr.cell (p:=⟨g,hi*4+2,none⟩) zg).trans e3
    have f4:=(hxr.cell (p:=⟨g,hi*4+3,none⟩) zg).trans e4
    clear e1 e2 e3 e4
    have zr:g<wr.heap.size:=by omega
    go_wp2_with (go_at_call 30;refine(HST.out _).mono ?_;rintro e w1 ⟨rfl,hb1⟩;obtain⟨hc1,hf1⟩:=hb1.cells;have hz1:=hb1.size;(try simp only[zS]at hz1);have z1_0:g<w1.heap.size:=(by omega);have z1_1:wr.heap.size<w1.heap.size:=(by omega))
    obtain⟨w2,hw2⟩: ∃w2,w2=w1.alloc (.cells #[.int .i64 nx, .int .i64 ny] 28):=⟨_,rfl⟩
    have hx2:Ext w1 w2:=by rw[hw2];exact z_x
    have hx1:Ext wr w1:=z_x
    have hx12:Ext wr w2:=hx1.trans hx2
    have z1:wr.heap.size<w1.heap.size:=by have:=hb1.size;simp at this;omega
    have z2:w1.heap.size<w2.heap.size:=by rw[hw2];simp
    have p0:w2.cell? ⟨w1.heap.size,0,none⟩=some (.int .i64 nx):=by rw[hw2];simp[go_sem]
    have p1:w2.cell? ⟨w1.heap.size,1,none⟩=some (.int .i64 ny):=by rw[hw2];simp[go_sem]
    have q0:w2.cell? ⟨wr.heap.size,0,none⟩=some (.int .i64 x):=by rw[hx2.cell (p:=⟨wr.heap.size,0,none⟩) z1,hb1.cell (p:=⟨wr.heap.size,0,none⟩) (by simp)];simp[go_sem]
    have q1:w2.cell? ⟨wr.heap.size,1,none⟩=some (.int .i64 y):=by rw[hx2.cell (p:=⟨wr.heap.size,1,none⟩) z1,hb1.cell (p:=⟨wr.heap.size,1,none⟩) (by simp)];simp[go_sem]
    have g1':=(hx12.cell (p:=⟨g,hi*4,none⟩) zr).trans f1
    have g2':=(hx12.cell (p:=⟨g,hi*4+1,none⟩) zr).trans f2
    have g3':=(hx12.cell (p:=⟨g,hi*4+2,none⟩) zr).trans f3
    have g4':=(hx12.cell (p:=⟨g,hi*4+3,none⟩) zr).trans f4
    rw[←hw2]
    have HX12:=aA hx12
    have zr2:g<w2.heap.size:=by omega
    have zr3:wr.heap.size<w2.heap.size:=by omega
    clear hw2 hb1 hc1 hf1 hz1 f1 f2 f3 f4 hx1 hx2 hx12
    have HDD:=aA HD
    clear HD
    cases hh:bO Bx By Bw Bh nx ny
    all_goals
     go_region_held3 (fun W=>(∀b o,b<w2.heap.size→W.cell? ⟨b,o,none⟩=w2.cell? ⟨b,o,none⟩)∧Ext w2 W) (first|with_reducible exact bG _|exact aI z_x)
      (first|(go_at_call 103;refine(pE Bx By Bw Bh nx ny _ (by omega) (by omega) (by unfold InI;omega) (by unfold InI;omega)).mono ?_;rintro e w3 ⟨rfl,hb3⟩))
    ·rename_i hS
     have hx3:Ext w2 w3:=hS.2
     have O3:=aA ((HO.out.ext HX12.out).ext hx3)
     have B3:=aA ((hbel'.trans (Below.mono HX12.out (by omega))).trans (Below.mono hx3 (by omega)):Below w.heap.size wp w3)
     clear hS
     have HD:=HDD.out
     rw[if_neg (by unfold dE;simp only;rw[hh];simp),List.append_nil]at HD
     have HD:=aA HD
     clear HDD
     go_wp2
     go_roundw
     case rel=>exact⟨m+1,by omega,by go_num,by rw[HD.out];exact O3.out,B3.out⟩
     simp[intOf];omega
    rename_i hS
    have hx3:Ext w2 w3:=hS.2
    have r0:=(hx3.cell (p:=⟨w1.heap.size,0,none⟩) z2).trans p0
    have r1:=(hx3.cell (p:=⟨w1.heap.size,1,none⟩) z2).trans p1
    have r2:=(hx3.cell (p:=⟨wr.heap.size,0,none⟩) zr3).trans q0
    have r3:=(hx3.cell (p:=⟨wr.heap.size,1,none⟩) zr3).trans q1
    have hz3:=hx3.size
    have O3:=aA ((HO.out.ext HX12.out).ext hx3)
    have B3:=aA ((hbel'.trans (Below.mono HX12.out (by omega))).trans (Below.mono hx3 (by omega)):Below w.heap.size wp w3)
    have lT:(M++eT ((Bx,By),(Bw,Bh)) x y m).length≤1002:=by rw[List.length_append];omega
    have HT:=aA (rfl:M++eT ((Bx,By),(Bw,Bh)) x y m=M++eT ((Bx,By),(Bw,Bh)) x y m)
    clear hS hb3 p0 p1 q0 q1 g1' g2' g3' g4' HO
    have HD:=HDD.out
    clear HDD
    rw[if_pos (show dE nx ny ((Bx,By),(Bw,Bh))=true from hh)]at HD
    have HD:=aA HD
    clear HT
    obtain⟨T,hT⟩: ∃T,T=M++eT ((Bx,By),(Bw,Bh)) x y m:=⟨_,rfl⟩
    rw[←hT]at O3 lT
    have HT:=aA hT
    clear hT
    go_wp2_with (at_builtin;refine dA aT uL rfl _ _ rfl w.heap.size _ _ T rfl O3.out ((x,y),(nx,ny)) _ _ rfl _ rfl rfl (by omega) (by omega) (by omega) ?_;intro g9 c9 w9 hown9 hb9;have HO9:=aA hown9;clear hown9)
    go_roundw
    case rel=>exact⟨m+1,by omega,by go_num,by rw[HD.out,←List.append_assoc,←HT.out];exact HO9.out,B3.out.trans hb9⟩
    simp[intOf];omega
   obtain rfl:m=2:=by omega
   go_wp2
   go_roundw
   case rel=>exact⟨i+1,by omega,by have:=HX.out;congr 1;omega,by rw[HI.out,←List.append_assoc,←HM.out,←HX.out];exact HO.out,bp.trans hbel'⟩
   have:=HX.out;simp[intOf];omega
  obtain rfl:i=aw:=by omega
  go_wp2
  go_quiet (fail)
  go_wp2
  go_roundw
  case rel=>exact⟨j+1,by omega,by have:=HY.out;congr 1;omega,by rw[HJ.out,←HY.out];exact HO.out.drewN _,Below.drewN' (bo.trans hbel) _⟩
  have:=HY.out;simp[intOf];omega
 obtain rfl:j=ah:=by omega
 go_wp2
 go_quiet (fail)
 go_wp2
 go_ret
 exact⟨_,rfl,hxr.drewN _,HO.out⟩
set_option maxRecDepth 100000 in
set_option maxHeartbeats 20000000 in
theorem aDi (W H s a b:Int) (w:World) (hr:aK W H s=true) (h0:0≤a) (ha:a<cnt W H s) (h1:0≤b) (hb:b<cnt W H s) (hn:eP (aQ W H s (min a b)) (max a b)=true):
  Calls Tryz.prog 129 #[.agg #[.int .i64 W, .int .i64 H, .int .i64 s], .int .i64 a, .int .i64 b] w (xV w (bI W H s (min a b) (max a b)) 0):=by
 have hany:[a,b].any (bad W H s)=false:=by simp[mU h0 ha,mU h1 hb]
 go_enter Tryz.func129,Tryz.ntmps129
 go_upto_region 4 with(first
  |(go_at_call 64;refine(zD W H s _ 0 _ [a,b] _ hr hany (by simp) (by simp) (by exact aAv _ _ _ _ _ (by simp))).mono ?_;rintro e w1 ⟨rfl,hb1⟩;obtain⟨hc1,hf1⟩:=hb1.cells;have hz1:=hb1.size;(try simp only[zS]at hz1);have z1_0:w.heap.size<w1.heap.size:=(by omega)))
 have hx1:Ext w w1:=z_x
 go_cut [1,2] (fun s1 s2 wx=>s1= .int .i64 (min a b)∧s2= .int .i64 (max a b)∧w1=wx)
 case first=>
  go_wp2
  all_goals go_meet
  all_goals exact⟨by congr 1;omega,by congr 1;omega,rfl⟩
 obtain⟨rfl,rfl,rfl⟩:=hcut
 have l0:0≤min a b:=by omega
 have l1:min a b<cnt W H s:=by omega
 have l2:0≤max a b:=by omega
 have l3:max a b<cnt W H s:=by omega
 generalize min a b=lo at *
 generalize max a b=hi at *
 have hlen:=kO W H s lo
 go_upto_region 9 with(first
  |(go_at_call 72;refine(oM W H s lo _ hr l0 l1).mono ?_;rintro e w2 ⟨v,rfl,hb2,hv⟩;have HV:=aA hv;clear hv;obtain⟨hc2,hf2⟩:=hb2.cells;have hz2:=hb2.size;(try simp only[zS]at hz2);have z2_0:w.heap.size<w2.heap.size:=(by omega))
  |(go_at_call 170;refine(yK hi _ (aQ W H s lo) _ (by omega) HV.out.reads).mono ?_;rintro e w3 ⟨rfl,hb3⟩;obtain⟨hc3,hf3⟩:=hb3.cells;have hz3:=hb3.size;(try simp only[zS]at hz3);have z3_0:w.heap.size<w3.heap.size:=(by omega)))
 have hx13:Ext w1 w3:=z_x
 have hx3:Ext w w3:=hx1.trans hx13
 have e0:w3.cell? ⟨w.heap.size,0,none⟩=some (.int .i64 W):=by rw[hx13.cell (p:=⟨w.heap.size,0,none⟩) z1_0,hc1 _ _ (by simp;omega)];simp[go_sem]
 have e1:w3.cell? ⟨w.heap.size,1,none⟩=some (.int .i64 H):=by rw[hx13.cell (p:=⟨w.heap.size,1,none⟩) z1_0,hc1 _ _ (by simp;omega)];simp[go_sem]
 have e2:w3.cell? ⟨w.heap.size,2,none⟩=some (.int .i64 s):=by rw[hx13.cell (p:=⟨w.heap.size,2,none⟩) z1_0,hc1 _ _ (by simp;omega)];simp[go_sem]
 clear hx13 hn hany hb1 hc1 hf1 hx1 hb2 hc2 hf2 hb3 hc3 hf3 HV hlen z1_0 z2_0 hz1 hz2 hz3
 go_cut [12,13] (fun s12 s13 wx=> ∃p q:Nat,s12= .pointer (some ⟨p,0,none⟩)∧s13= .pointer (some ⟨q,0,none⟩)∧p<wx.heap.size∧q<wx.heap.size∧Ext w wx∧
  (wx.cell? ⟨p,0,none⟩=some (.int .i64 (aR W s lo))∧wx.cell? ⟨p,1,none⟩=some (.int .i64 (aO W s lo))∧wx.cell? ⟨p,2,none⟩=some (.int .i64 (aZ W s lo))∧wx.cell? ⟨p,3,none⟩=some (.int .i64 (bA W H s lo)))∧
  wx.cell? ⟨q,0,none⟩=some (.int .i64 (aR W s hi))∧wx.cell? ⟨q,1,none⟩=some (.int .i64 (aO W s hi)))
 case first=>
  go_region_held3 (fun W=>(∀b o,b<w3.heap.size→W.cell? ⟨b,o,none⟩=w3.cell? ⟨b,o,none⟩)∧Ext w3 W) (first|with_reducible exact bG _|exact aI z_x)
   (first|(go_at_call 65;refine(aCj W H s _ _ hr (by omega) (by omega)).mono ?_;rintro e w4 ⟨rfl,hb4⟩;obtain⟨hc4,hf4⟩:=hb4.cells;have hz4:=hb4.size;(try simp only[zS]at hz4);(try have zA4:=Nat.lt_of_succ_le hz4);(try have zB4:=Nat.lt_of_succ_le (Nat.le_of_succ_le hz4));(try have zC4:w3.heap.size<w4.heap.size:=(by omega));(try have zD4:w3.heap.size+1<w4.heap.size:=(by omega));(try have zE4:w4.heap.size≠w3.heap.size:=(by omega));(try have zF4:w3.heap.size≠w4.heap.size:=(by omega));(try have zG4:w3.heap.size<w4.heap.size+1:=(by omega))))
  all_goals
   rename_i hS
   have hX:=hx3.trans hS.2
   clear hS
   have ar: ∀n:Nat,n<n+1+1:=(fun n=>by omega)
   go_wp2_with fail
   go_meet
   refine⟨_,_,rfl,rfl,?_,?_,hX,⟨?_,?_,?_,?_⟩,?_,?_⟩
   all_goals first
    |(simp[go_sem,aZ,bA];done)
    |(simp[go_sem,aZ,bA];omega)
    |(simp[go_sem,aZ,bA, *];done)
    |(simp[go_sem,aZ,bA,hc4,zA4,zB4];done)
    |skip
   all_goals ((try unfold aZ);(try unfold bA);go_simp)
 clear e0 e1 e2 z3_0 hx3
 obtain⟨p,q,rfl,rfl,hp,hq,hx,⟨p0,p1,p2,p3⟩,q0,q1⟩:=hcut
 have hzx:=hx.size
 have bl:=eM hr l0 l1
 have bh:=eM hr l2 l3
 have sl:=fJ hr l0 l1
 obtain⟨h1,h2,h3,h4,h5,h6⟩:=rightB_true.1 hr
 cases hrow:(aO W s lo==aO W s hi)
 ·have hrow': ¬aO W s lo=aO W s hi:=by simpa using hrow
  have hbl:bI W H s lo hi=lK (aR W s lo) (aO W s hi) (aZ W s lo).toNat:=by unfold bI;rw[if_neg hrow']
  clear hrow'
  obtain⟨N,hN⟩: ∃N:Nat,aZ W s lo=(N:Int):=⟨(aZ W s lo).toNat,by omega⟩
  rw[hN]at sl p2 hbl
  rw[Int.toNat_natCast]at hbl
  clear hN
  have HB:=aA hbl
  clear hbl
  generalize aR W s lo=X1 at *
  generalize aO W s hi=Y2 at *
  go_wp2
  go_loopw [11,79] (fun out i wr=> ∃k:Nat,k≤N∧i= .int .i64 k∧Own aT wr wc.heap.size 225 out (lK X1 Y2 k)∧Below wc.heap.size wc wr) (fun _ i _=>N-(intOf i).toNat)
  case atStart=>exact⟨0,by omega,rfl,Own.nil _ _ _ _,Below.refl _ _⟩
  obtain⟨k,hk,rfl,hown,hbel⟩:=hrel
  have HO:=aA hown
  have hcr:=iC hbel
  have hz:=hbel.size
  have hlen:=kE X1 Y2 k
  have HS:=aA (aGy X1 Y2 k)
  by_cases hlt:k<N
  ·clear hown
   go_wp2_with (at_builtin;refine dA aT uL rfl _ _ rfl wc.heap.size _ _ (lK X1 Y2 k) rfl HO.out ((X1+(k:Int),Y2-1),(X1+(k:Int),Y2)) _ _ rfl _ rfl rfl (by omega) (by omega) (by omega) ?_;intro g c w' hown' hbel';have HO':=aA hown';clear hown')
   go_roundw
   case rel=>exact⟨k+1,by omega,by go_num,by rw[HS.out];have h9:=HO'.out;rw[hlen]at h9;exact h9,hbel.trans hbel'⟩
   simp[intOf];omega
  obtain rfl:k=N:=by omega
  clear hown
  go_wp2
  go_ret2
  exact⟨_,rfl,hx.of_below hbel hx.size,by rw[HB.out];exact HO.out.lower hx.size⟩
 have hrow':aO W s lo=aO W s hi:=by simpa using hrow
 have hbl:bI W H s lo hi=iJ (aR W s hi) (aO W s lo) (bA W H s lo).toNat:=by unfold bI;rw[if_pos hrow']
 clear hrow'
 obtain⟨N,hN⟩: ∃N:Nat,bA W H s lo=(N:Int):=⟨(bA W H s lo).toNat,by omega⟩
 rw[hN]at sl p3 hbl
 rw[Int.toNat_natCast]at hbl
 clear hN
 have HB:=aA hbl
 clear hbl
 generalize aR W s hi=X2 at *
 generalize aO W s lo=Y1 at *
 go_wp2
 go_loopw [11,53] (fun out i wr=> ∃k:Nat,k≤N∧i= .int .i64 k∧Own aT wr wc.heap.size 225 out (iJ X2 Y1 k)∧Below wc.heap.size wc wr) (fun _ i _=>N-(intOf i).toNat)
 case atStart=>exact⟨0,by omega,rfl,Own.nil _ _ _ _,Below.refl _ _⟩
 obtain⟨k,hk,rfl,hown,hbel⟩:=hrel
 have HO:=aA hown
 have hcr:=iC hbel
 have hz:=hbel.size
 have hlen:=jB X2 Y1 k
 have HS:=aA (aEw X2 Y1 k)
 by_cases hlt:k<N
 ·clear hown
  go_wp2_with (at_builtin;refine dA aT uL rfl _ _ rfl wc.heap.size _ _ (iJ X2 Y1 k) rfl HO.out ((X2-1,Y1+(k:Int)),(X2,Y1+(k:Int))) _ _ rfl _ rfl rfl (by omega) (by omega) (by omega) ?_;intro g c w' hown' hbel';have HO':=aA hown';clear hown')
  go_roundw
  case rel=>exact⟨k+1,by omega,by go_num,by rw[HS.out];have h9:=HO'.out;rw[hlen]at h9;exact h9,hbel.trans hbel'⟩
  simp[intOf];omega
 obtain rfl:k=N:=by omega
 clear hown
 go_wp2
 go_ret2
 exact⟨_,rfl,hx.of_below hbel hx.size,by rw[HB.out];exact HO.out.lower hx.size⟩
def dT (W H s a b:Int):List (aB×aB):=if eP (aQ W H s (min a b)) (max a b)=true then bI W H s (min a b) (max a b) else[]
theorem aIk {W H s id:Int} (hr:aK W H s=true) (h0:0≤id) (hid:id<cnt W H s):bJ W H s id=((aR W s id,aO W s id),(((aZ W s id).toNat:Int),((bA W H s id).toNat:Int))):=by
 have z:=fJ hr h0 hid
 rw[Int.toNat_of_nonneg (by omega),Int.toNat_of_nonneg (by omega)];rfl
theorem aBy (g c N:Nat) (W H s:Int) (a b:Nat) (w:World) (hr:aK W H s=true) (hN:(bF W H s).length=N) (ha:a<N) (hb:b<N) (hR:Reads aT w (.slice (some ⟨g,0,none⟩) N c) (bF W H s)):
  Calls Tryz.prog 94 #[.slice (some ⟨g,0,none⟩) N c, .int .i64 (a:Int), .int .i64 (b:Int)] w (pQ w (dT W H s (a:Int) (b:Int))):=by
 have b0:=mI hr
 have hl:=cQ hr
 by_cases he:a=b
 ·subst he
  have e:dT W H s (a:Int) (a:Int)=[]:=by
   unfold dT
   rw[show min (a:Int) (a:Int)=a by omega,show max (a:Int) (a:Int)=a by omega,fV hr];rfl
  rw[e]
  exact aA5 _ _ w
 have l1:((min a b:Nat):Int)<cnt W H s:=by omega
 have l2:((max a b:Nat):Int)<cnt W H s:=by omega
 have hlo:=fW hr (min a b) l1
 have hhi:=fW hr (max a b) l2
 have bl:=eM hr (id:=((min a b:Nat):Int)) (by omega) l1
 have zl:=fJ hr (id:=((min a b:Nat):Int)) (by omega) l1
 have bh:=eM hr (id:=((max a b:Nat):Int)) (by omega) l2
 obtain⟨h1,h2,h3,h4,h5,h6⟩:=rightB_true.1 hr
 rw[aIk hr (by omega) l1]at hlo
 have e:dT W H s (a:Int) (b:Int)=lG (bJ W H s ((max a b:Nat):Int)) (aR W s ((min a b:Nat):Int)) (aO W s ((min a b:Nat):Int)) (aZ W s ((min a b:Nat):Int)).toNat (bA W H s ((min a b:Nat):Int)).toNat:=by
  rw[aB4 hr (by omega) (by omega) l2]
  unfold dT
  rw[show((min a b:Nat):Int)=min (a:Int) (b:Int) by omega,show((max a b:Nat):Int)=max (a:Int) (b:Int) by omega]
 rw[e]
 rw[←hN]at hR⊢
 exact aBz g c (bF W H s) a b _ _ _ _ _ _ _ _ w (by omega) hR he hlo hhi ⟨by omega,by omega,by omega,by omega,by omega,by omega,by omega,by omega⟩
theorem aB8 {W H s lo hi:Int} (hr:aK W H s=true) (h0:0≤lo) (h1:lo<cnt W H s):1≤(bI W H s lo hi).length:=by
 have z:=fJ hr h0 h1
 unfold bI
 split
 ·rw[jB];omega
 rw[kE];omega
end Go.Proofs.YtaellcgglldjaaaGreat

