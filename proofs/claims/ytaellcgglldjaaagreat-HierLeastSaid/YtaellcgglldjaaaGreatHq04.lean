/- Part of a proof: RefC PlawC. -/
import Derived.Test.YtaellcgglldjaaaGreatHq02
import Derived.Test.YtaellcgglldjaaaGreatHq03
set_option linter.all false
set_option linter.unusedVariables false
set_option linter.unusedSimpArgs false
namespace Go.Proofs.YtaellcgglldjaaaGreat
open Go.RowKit
def mM {α:Type} (p:α→Bool) (l:List α):Int:=match l.findIdx? p with
 |some i=>i
 |none=> -1
theorem aK0 {α:Type} {p:α→Bool} {l:List α} {k:Nat} (hk:k<l.length) (h: ∀j (hj:j<k),p (l[j]'(by omega))=false) (hp:p l[k]=true):mM p l=k:=by
 have:l.findIdx? p=some k:=by
  rw[List.findIdx?_eq_some_iff_getElem]
  exact⟨hk,hp,fun j hj=>by simpa using h j hj⟩
 simp[mM,this]
theorem aEy {α:Type} {p:α→Bool} {l:List α} (h: ∀j (hj:j<l.length),p l[j]=false):mM p l= -1:=by
 have:l.findIdx? p=none:=by
  rw[List.findIdx?_eq_none_iff]
  intro x hx
  obtain⟨j,hj,rfl⟩:=List.getElem_of_mem hx
  exact h j hj
 simp[mM,this]
theorem Own.pos {α:Type} {E:Enc α} {w:World} {base:Nat} {e:TypeId} {v:Value} {l:List α} (h:Own E w base e v l) (hl:0<l.length): ∃g c,v= .slice (some ⟨g,0,none⟩) l.length c∧base≤g∧g<w.heap.size:=by
 rcases h.2 with⟨_,hn⟩|⟨g,cap,cur,hv,hb,hg,_⟩
 ·omega
 ·exact⟨g,cap,hv,hb,lt_of_block hg⟩
def lI (x y:Int) (b:aB×aB):Bool:=bL b.1.1 b.1.2 b.2.1 b.2.2 x y
theorem PairsAt.below {w w':World} {b off:Nat} {l:List (aB×aB)} (h:PairsAt w b off l) {B:Nat} (hb:b<B) (he:Below B w w'):PairsAt w' b off l:=
 fun k hk=>⟨(he.cell (p:=⟨b,_,none⟩) hb).trans (h k hk).1,(he.cell (p:=⟨b,_,none⟩) hb).trans (h k hk).2.1,(he.cell (p:=⟨b,_,none⟩) hb).trans (h k hk).2.2.1,(he.cell (p:=⟨b,_,none⟩) hb).trans (h k hk).2.2.2⟩
def lE (W H s id:Int):aB×aB:=((aU W s id,aP W s id),(bB W s id,bA W H s id))
theorem nP {x s u:Int} (hs:0<s) (h1:u*s≤x) (h2:x<u*s+s):x/s=u:=by
 have a1:u≤x/s:=(Int.le_ediv_iff_mul_le hs).2 h1
 have a2:x/s<u+1:=Int.ediv_lt_of_lt_mul hs (by rw[Int.add_mul];omega)
 omega
theorem jH {W s x:Int} (hs:1≤s) (h0:0≤x) (hx:x<W):x/s<acr W s:=by
 unfold acr
 have h1:x/s≤(W-1)/s:=Int.ediv_le_ediv (by omega) (by omega)
 have h2:(W+s-1)/s=(W-1)/s+1:=by
  rw[show W+s-1=(W-1)+s*1 from by omega,Int.add_mul_ediv_left _ _ (by omega)]
 omega
theorem nW {W H s x y:Int} (hr:aL W H s=true) (hi:inB W H x y=true) {id:Int} (h0:0≤id) (hid:id<cnt W H s):lI x y (lE W H s id)=true↔id=ofN W s x y:=by
 obtain⟨h1,h2,h3,h4,h5,h6⟩:=rightB_true.1 hr
 obtain⟨_,_,_,_,i1,i2,i3,i4⟩:=inB_true.1 hi
 have b1:=bR W s h5 h6 h1 h2
 unfold lI lE
 rw[hasB_true]
 unfold bB bA aU aP ofN
 have e1:=Int.emod_add_mul_ediv id (acr W s)
 have m0:0≤id% acr W s:=Int.emod_nonneg _ (by omega)
 have m1:=Int.emod_lt_of_pos id (show 0<acr W s by omega)
 have q1:=Int.emod_add_mul_ediv x s
 have q2:=Int.emod_lt_of_pos x (show 0<s by omega)
 have q3:0≤x% s:=Int.emod_nonneg _ (by omega)
 have p1:=Int.emod_add_mul_ediv y s
 have p2:=Int.emod_lt_of_pos y (show 0<s by omega)
 have p3:0≤y% s:=Int.emod_nonneg _ (by omega)
 simp only
 constructor
 ·rintro⟨g1,g2,g3,g4⟩
  have ex:x/s=id% acr W s:=nP (by omega) g1 (by omega)
  have ey:y/s=id/acr W s:=nP (by omega) g3 (by omega)
  rw[ex,ey,Int.mul_comm]
  omega
 ·intro he
  have a1:=jH (W:=W) (s:=s) (by omega) i1 i2
  have a2:=Int.ediv_nonneg i1 (show 0≤s by omega)
  have hm:id% acr W s=x/s:=by
   rw[he,Int.add_comm,Int.add_mul_emod_self_right]
   exact Int.emod_eq_of_lt a2 a1
  have hd:id/acr W s=y/s:=by
   rw[he,Int.add_comm,Int.add_mul_ediv_right _ _ (by omega),Int.ediv_eq_zero_of_lt a2 a1]
   omega
  rw[hm,hd]
  rw[Int.mul_comm s]at q1 p1
  omega
theorem aHu {W H s x y:Int} (hr:aL W H s=true) (hi:inB W H x y=false) {id:Int} (h0:0≤id) (hid:id<cnt W H s):lI x y (lE W H s id)=false:=by
 obtain⟨h1,h2,h3,h4,h5,h6⟩:=rightB_true.1 hr
 cases hh:lI x y (lE W H s id)
 ·rfl
 ·have bb:=iD hr h0 hid
  unfold lI lE at hh
  rw[hasB_true]at hh
  unfold bB bA at hh
  simp only at hh
  have:inB W H x y=true:=inB_true.2 ⟨by omega,by omega,by omega,by omega,by omega,by omega,by omega,by omega⟩
  rw[this]at hi
  cases hi
theorem dE {W H s x y:Int} (hr:aL W H s=true) (hi:inB W H x y=true):0≤ofN W s x y∧ofN W s x y<cnt W H s:=by
 obtain⟨h1,h2,h3,h4,h5,h6⟩:=rightB_true.1 hr
 obtain⟨_,_,_,_,i1,i2,i3,i4⟩:=inB_true.1 hi
 have b1:=bR W s h5 h6 h1 h2
 have a1:=jH (W:=W) (s:=s) (by omega) i1 i2
 have a2:=Int.ediv_nonneg i1 (show 0≤s by omega)
 have c1:=jH (W:=H) (s:=s) (by omega) i3 i4
 have c2:=Int.ediv_nonneg i3 (show 0≤s by omega)
 unfold ofN cnt
 have m1:=Int.mul_nonneg c2 (show 0≤acr W s by omega)
 have m2:y/s*acr W s≤(acr H s-1)*acr W s:=Int.mul_le_mul_of_nonneg_right (by omega) (by omega)
 rw[Int.sub_mul,Int.mul_comm (acr H s)]at m2
 omega
theorem aHk {W H s id:Int} (hr:aL W H s=true) (h0:0≤id) (hid:id<cnt W H s):iE W H (aU W s id) (aP W s id) (bB W s id) (bA W H s id)=true:=by
 have b:=iD hr h0 hid
 have z:=jU hr h0 hid
 unfold iE
 unfold bB bA at *
 simp only[Bool.and_eq_true,decide_eq_true_eq]
 omega
end Go.Proofs.YtaellcgglldjaaaGreat

namespace Go.Proofs.YtaellcgglldjaaaGreat
open Go.RowKit
def Left (p q:aB):Prop:=q.1=p.1+1∧q.2=p.2
def pN (p q:aB):Prop:=q.1=p.1∧q.2=p.2+1
theorem xK {x s:Int} (hs:1≤s) (hne:(x+1)/s≠x/s):(x+1)/s=x/s+1∧(x+1)/s*s=x+1:=by
 have q1:=Int.emod_add_mul_ediv x s
 have q2:=Int.emod_lt_of_pos x (show 0<s by omega)
 have q3:0≤x% s:=Int.emod_nonneg _ (by omega)
 rw[Int.mul_comm]at q1
 by_cases h:x% s+1<s
 ·exact absurd (nP (u:=x/s) (by omega) (by omega) (by omega)) hne
 ·have e:(x/s+1)*s=x/s*s+s:=by rw[Int.add_mul];omega
  have:(x+1)/s=x/s+1:=nP (by omega) (by omega) (by omega)
  exact⟨this,by rw[this];omega⟩
theorem nY {W s x y:Int} (h1:0≤x/s) (h2:x/s<acr W s):ofN W s x y% acr W s=x/s∧ofN W s x y/acr W s=y/s:=by
 unfold ofN
 constructor
 ·rw[Int.add_comm,Int.add_mul_emod_self_right]
  exact Int.emod_eq_of_lt h1 h2
 ·rw[Int.add_comm,Int.add_mul_ediv_right _ _ (by omega),Int.ediv_eq_zero_of_lt h1 h2]
  omega
theorem aK6 {W H s:Int} {p q:aB} (hr:aL W H s=true) (hp:inB W H p.1 p.2=true) (hq:inB W H q.1 q.2=true) (hl:Left p q) (hne:ofN W s p.1 p.2≠ofN W s q.1 q.2):
  ofN W s q.1 q.2=ofN W s p.1 p.2+1∧ofN W s p.1 p.2% acr W s<acr W s-1∧aU W s (ofN W s q.1 q.2)=q.1:=by
 obtain⟨h1,h2,h3,h4,h5,h6⟩:=rightB_true.1 hr
 obtain⟨_,_,_,_,i1,i2,i3,i4⟩:=inB_true.1 hp
 obtain⟨_,_,_,_,j1,j2,j3,j4⟩:=inB_true.1 hq
 obtain⟨l1,l2⟩:=hl
 have a1:=jH (W:=W) (s:=s) (by omega) i1 i2
 have a2:=Int.ediv_nonneg i1 (show 0≤s by omega)
 have b1:=jH (W:=W) (s:=s) (by omega) j1 j2
 have b2:=Int.ediv_nonneg j1 (show 0≤s by omega)
 have mp:=nY (y:=p.2) a2 a1
 have mq:=nY (y:=q.2) b2 b1
 have hne':(p.1+1)/s≠p.1/s:=by
  intro e
  apply hne
  unfold ofN
  rw[l1,l2,e]
 have dn:=xK (by omega) hne'
 rw[←l1]at dn
 refine⟨?_,?_,?_⟩
 ·unfold ofN;rw[dn.1,l2];omega
 ·rw[mp.1];omega
 ·unfold aU;rw[mq.1];exact dn.2
theorem aH3 {W H s:Int} {p q:aB} (hr:aL W H s=true) (hp:inB W H p.1 p.2=true) (hq:inB W H q.1 q.2=true) (hl:pN p q) (hne:ofN W s p.1 p.2≠ofN W s q.1 q.2):
  ofN W s q.1 q.2=ofN W s p.1 p.2+acr W s∧aP W s (ofN W s q.1 q.2)=q.2:=by
 obtain⟨h1,h2,h3,h4,h5,h6⟩:=rightB_true.1 hr
 obtain⟨_,_,_,_,i1,i2,i3,i4⟩:=inB_true.1 hp
 obtain⟨_,_,_,_,j1,j2,j3,j4⟩:=inB_true.1 hq
 obtain⟨l1,l2⟩:=hl
 have b1:=jH (W:=W) (s:=s) (by omega) j1 j2
 have b2:=Int.ediv_nonneg j1 (show 0≤s by omega)
 have mq:=nY (y:=q.2) b2 b1
 have hne':(p.2+1)/s≠p.2/s:=by
  intro e
  apply hne
  unfold ofN
  rw[l1,l2,e]
 have dn:=xK (by omega) hne'
 rw[←l2]at dn
 refine⟨?_,?_⟩
 ·unfold ofN;rw[dn.1,l1,Int.add_mul];omega
 ·unfold aP;rw[mq.2];exact dn.2
theorem aKb {b:Bool} {n x:Int}:x∈opt b n↔b=true∧x=n:=by cases b<;>simp[opt]
theorem aEi (b:Bool) (n x:Int):(opt b n).count x=if b=true∧x=n then 1 else 0:=by
 cases b
 ·simp[opt]
 ·simp only[opt,if_true,List.count_cons,List.count_nil,true_and]
  by_cases h:n=x
  ·simp[h]
  ·have h': ¬x=n:=fun e=>h e.symm
   simp[h,h']
theorem hasI_iff {l:List Int} {x:Int}:eV l x=true↔x∈l:=by simp[eV]
theorem beside_mem {W H s id x:Int}:x∈aO W H s id↔(acr W s≤id∧x=id-acr W s)∨(id% acr W s<acr W s-1∧x=id+1)∨(id+acr W s<cnt W H s∧x=id+acr W s)∨(0<id% acr W s∧x=id-1):=by
 simp only[aO,List.mem_append,aKb,decide_eq_true_eq]
 constructor
 ·rintro(((h|h)|h)|h)
  ·exact .inl h
  ·exact .inr (.inl h)
  ·exact .inr (.inr (.inl h))
  ·exact .inr (.inr (.inr h))
 ·rintro(h|h|h|h)
  ·exact .inl (.inl (.inl h))
  ·exact .inl (.inl (.inr h))
  ·exact .inl (.inr h)
  ·exact .inr h
theorem aA9 {W H s id x:Int} (ha:1≤acr W s) (h:x∈aO W H s id):(aO W H s id).count x=1:=by
 rw[beside_mem]at h
 have m0:0≤id% acr W s:=Int.emod_nonneg _ (by omega)
 have m1:=Int.emod_lt_of_pos id (show 0<acr W s by omega)
 simp only[aO,List.count_append,aEi,decide_eq_true_eq]
 generalize acr W s=a at *
 generalize id% a=m at *
 rcases h with h|h|h|h
 all_goals
  (repeat' split)<;>omega
theorem zM (X Y:Int) (n k:Nat) (h:k<n):(iO X Y n)[k]? =some ((X-1,Y+(k:Int)),(X,Y+(k:Int))):=by
 simp[iO,List.getElem?_map,List.getElem?_range h]
theorem aBy (X Y:Int) (n k:Nat) (h:k<n):(lK X Y n)[k]? =some ((X+(k:Int),Y-1),(X+(k:Int),Y)):=by
 simp[lK,List.getElem?_map,List.getElem?_range h]
theorem sG {W H s:Int} (hr:aL W H s=true) {id:Int} (h0:0≤id) (hid:id<cnt W H s) {x y:Int} (hx:aU W s id≤x∧x<aU W s id+bB W s id) (hy:aP W s id≤y∧y<aP W s id+bA W H s id):
  inB W H x y=true∧ofN W s x y=id:=by
 obtain⟨h1,h2,h3,h4,h5,h6⟩:=rightB_true.1 hr
 have bb:=iD hr h0 hid
 have hh:lI x y (lE W H s id)=true:=by
  unfold lI lE;rw[hasB_true];exact⟨hx.1,hx.2,hy.1,hy.2⟩
 unfold bB at hx
 unfold bA at hy
 have hin:inB W H x y=true:=inB_true.2 ⟨by omega,by omega,by omega,by omega,by omega,by omega,by omega,by omega⟩
 exact⟨hin,((nW hr hin h0 hid).1 hh).symm⟩
structure Pair (W H s lo hi:Int):Prop where
 lo0:0≤lo
 hi1:hi<cnt W H s
 way:(hi=lo+1∧lo% acr W s<acr W s-1)∨hi=lo+acr W s
theorem Pair.lt {W H s lo hi:Int} (hr:aL W H s=true) (h:Pair W H s lo hi):lo<hi:=by
 obtain⟨h1,h2,h3,h4,h5,h6⟩:=rightB_true.1 hr
 have b1:=bR W s h5 h6 h1 h2
 rcases h.way with h|h<;>omega
theorem Pair.right {W H s lo:Int} (hr:aL W H s=true) (h0:0≤lo) (hw:lo% acr W s<acr W s-1):
  aU W s (lo+1)=aU W s lo+s∧aP W s (lo+1)=aP W s lo:=by
 obtain⟨h1,h2,h3,h4,h5,h6⟩:=rightB_true.1 hr
 have b1:=bR W s h5 h6 h1 h2
 have e:=Int.emod_add_mul_ediv lo (acr W s)
 have m0:0≤lo% acr W s:=Int.emod_nonneg _ (by omega)
 have hm:(lo+1)% acr W s=lo% acr W s+1:=by
  have:lo+1=(lo% acr W s+1)+acr W s*(lo/acr W s):=by omega
  rw[this,Int.add_mul_emod_self_left]
  exact Int.emod_eq_of_lt (by omega) (by omega)
 have hd:(lo+1)/acr W s=lo/acr W s:=by
  have:lo+1=(lo% acr W s+1)+acr W s*(lo/acr W s):=by omega
  rw[this,Int.add_mul_ediv_left _ _ (by omega),Int.ediv_eq_zero_of_lt (by omega) (by omega)]
  omega
 unfold aU aP
 rw[hm,hd,Int.add_mul]
 omega
theorem Pair.low {W H s lo:Int} (hr:aL W H s=true):aU W s (lo+acr W s)=aU W s lo∧aP W s (lo+acr W s)=aP W s lo+s:=by
 obtain⟨h1,h2,h3,h4,h5,h6⟩:=rightB_true.1 hr
 have b1:=bR W s h5 h6 h1 h2
 unfold aU aP
 have hm:(lo+acr W s)% acr W s=lo% acr W s:=Int.add_emod_right _ _
 have hd:(lo+acr W s)/acr W s=lo/acr W s+1:=by
  have:=Int.add_mul_ediv_right lo 1 (show acr W s≠0 by omega)
  rwa [Int.one_mul]at this
 rw[hm,hd,Int.add_mul]
 omega
theorem eJ {W H s lo hi:Int} (hr:aL W H s=true) (h:Pair W H s lo hi) {k:Nat} {p:aB×aB} (hk:(aT W H s lo hi)[k]? =some p):
  inB W H p.1.1 p.1.2=true∧inB W H p.2.1 p.2.2=true∧ofN W s p.1.1 p.1.2=lo∧ofN W s p.2.1 p.2.2=hi∧
  ((hi=lo+1∧lo% acr W s<acr W s-1∧p=((aU W s hi-1,aP W s lo+(k:Int)),(aU W s hi,aP W s lo+(k:Int)))∧(k:Int)<bA W H s lo)∨
   (aP W s lo≠aP W s hi∧p=((aU W s lo+(k:Int),aP W s hi-1),(aU W s lo+(k:Int),aP W s hi))∧(k:Int)<bB W s lo)):=by
 obtain⟨h1,h2,h3,h4,h5,h6⟩:=rightB_true.1 hr
 have b1:=bR W s h5 h6 h1 h2
 have hlt:=h.lt hr
 have zl:=jU hr h.lo0 (by have:=h.hi1;omega)
 have zh:=jU hr (id:=hi) (by have:=h.lo0;omega) h.hi1
 have bl:=iD hr h.lo0 (by have:=h.hi1;omega)
 have bh:=iD hr (id:=hi) (by have:=h.lo0;omega) h.hi1
 by_cases hrow:aP W s lo=aP W s hi
 ·rcases h.way with⟨e,hw⟩|e
  ·have pr:=Pair.right hr h.lo0 hw
   rw[←e]at pr
   unfold aT at hk
   rw[if_pos hrow]at hk
   have hkn:k<(bA W H s lo).toNat:=by
    have:=(List.getElem?_eq_some_iff.1 hk).1
    rwa [gZ]at this
   rw[zM _ _ _ _ hkn]at hk
   have hp:=(Option.some.inj hk).symm
   subst hp
   have hkH:(k:Int)<bA W H s lo:=by omega
   have A:=sG hr h.lo0 (by have:=h.hi1;omega) (x:=aU W s hi-1) (y:=aP W s lo+(k:Int)) ⟨by omega,by unfold bB;omega⟩ ⟨by omega,by omega⟩
   have B:=sG hr (id:=hi) (by have:=h.lo0;omega) h.hi1 (x:=aU W s hi) (y:=aP W s lo+(k:Int)) ⟨by omega,by omega⟩ ⟨by omega,by unfold bA at hkH⊢;rw[←hrow];omega⟩
   exact⟨A.1,B.1,A.2,B.2, .inl ⟨e,hw,rfl,hkH⟩⟩
  ·have pl:=Pair.low (lo:=lo) hr
   rw[←e]at pl
   omega
 ·have e:hi=lo+acr W s:=by
   rcases h.way with⟨e,hw⟩|e
   ·have pr:=Pair.right hr h.lo0 hw
    rw[←e]at pr
    exact absurd pr.2.symm hrow
   ·exact e
  have pl:=Pair.low (lo:=lo) hr
  rw[←e]at pl
  unfold aT at hk
  rw[if_neg hrow]at hk
  have hkn:k<(bB W s lo).toNat:=by
   have:=(List.getElem?_eq_some_iff.1 hk).1
   rwa [iX]at this
  rw[aBy _ _ _ _ hkn]at hk
  have hp:=(Option.some.inj hk).symm
  subst hp
  have hkW:(k:Int)<bB W s lo:=by omega
  have A:=sG hr h.lo0 (by have:=h.hi1;omega) (x:=aU W s lo+(k:Int)) (y:=aP W s hi-1) ⟨by omega,by omega⟩ ⟨by omega,by unfold bA;omega⟩
  have B:=sG hr (id:=hi) (by have:=h.lo0;omega) h.hi1 (x:=aU W s lo+(k:Int)) (y:=aP W s hi) ⟨by omega,by unfold bB at hkW⊢;rw[pl.1];omega⟩ ⟨by omega,by omega⟩
  exact⟨A.1,B.1,A.2,B.2, .inr ⟨hrow,rfl,hkW⟩⟩
theorem aBg {W H s:Int} {p:aB} (hr:aL W H s=true) (hp:inB W H p.1 p.2=true):
  aU W s (ofN W s p.1 p.2)≤p.1∧p.1<aU W s (ofN W s p.1 p.2)+bB W s (ofN W s p.1 p.2)∧aP W s (ofN W s p.1 p.2)≤p.2∧p.2<aP W s (ofN W s p.1 p.2)+bA W H s (ofN W s p.1 p.2):=by
 have ob:=dE hr hp
 have h:=(nW hr hp ob.1 ob.2).2 rfl
 unfold lI lE at h
 exact hasB_true.1 h
theorem aCg {W H s:Int} {p q:aB} (hr:aL W H s=true) (hp:inB W H p.1 p.2=true) (hq:inB W H q.1 q.2=true) (hl:Left p q∨pN p q) (hne:ofN W s p.1 p.2≠ofN W s q.1 q.2):
  Pair W H s (ofN W s p.1 p.2) (ofN W s q.1 q.2)∧ ∃k0:Nat,k0<(aT W H s (ofN W s p.1 p.2) (ofN W s q.1 q.2)).length∧ ∀(j:Nat) (r:aB×aB),(aT W H s (ofN W s p.1 p.2) (ofN W s q.1 q.2))[j]? =some r→(r=(p,q)↔j=k0):=by
 obtain⟨h1,h2,h3,h4,h5,h6⟩:=rightB_true.1 hr
 have b1:=bR W s h5 h6 h1 h2
 have op:=dE hr hp
 have oq:=dE hr hq
 have bp:=aBg hr hp
 have bq:=aBg hr hq
 obtain⟨p1,p2⟩:=p
 obtain⟨q1,q2⟩:=q
 rcases hl with hl|hl
 ·have lf:=aK6 hr hp hq hl hne
  obtain⟨l1,l2⟩:=hl
  simp only at *
  generalize hlo:ofN W s p1 p2=lo at *
  generalize hhi:ofN W s q1 q2=hi at *
  obtain⟨e,hw,hX⟩:=lf
  have pr:=Pair.right hr op.1 hw
  rw[←e]at pr
  have hrow:aP W s lo=aP W s hi:=pr.2.symm
  refine⟨⟨op.1,oq.2, .inl ⟨e,hw⟩⟩,(p2-aP W s lo).toNat,?_,?_⟩
  ·unfold aT
   rw[if_pos hrow,gZ]
   omega
  ·intro j r hj
   unfold aT at hj
   rw[if_pos hrow]at hj
   have hjn:j<(bA W H s lo).toNat:=by
    have:=(List.getElem?_eq_some_iff.1 hj).1
    rwa [gZ]at this
   rw[zM _ _ _ _ hjn]at hj
   have hr':=(Option.some.inj hj).symm
   subst hr'
   simp only[Prod.mk.injEq]
   omega
 ·have lf:=aH3 hr hp hq hl hne
  obtain⟨l1,l2⟩:=hl
  simp only at *
  generalize hlo:ofN W s p1 p2=lo at *
  generalize hhi:ofN W s q1 q2=hi at *
  obtain⟨e,hY⟩:=lf
  have pl:=Pair.low (lo:=lo) hr
  rw[←e]at pl
  have hrow: ¬aP W s lo=aP W s hi:=by omega
  refine⟨⟨op.1,oq.2, .inr e⟩,(p1-aU W s lo).toNat,?_,?_⟩
  ·unfold aT
   rw[if_neg hrow,iX]
   omega
  ·intro j r hj
   unfold aT at hj
   rw[if_neg hrow]at hj
   have hjn:j<(bB W s lo).toNat:=by
    have:=(List.getElem?_eq_some_iff.1 hj).1
    rwa [iX]at this
   rw[aBy _ _ _ _ hjn]at hj
   have hr':=(Option.some.inj hj).symm
   subst hr'
   simp only[Prod.mk.injEq]
   omega
theorem Pair.mem {W H s lo hi:Int} (hr:aL W H s=true) (h:Pair W H s lo hi):hi∈aO W H s lo∧lo∈aO W H s hi:=by
 obtain⟨h1,h2,h3,h4,h5,h6⟩:=rightB_true.1 hr
 have b1:=bR W s h5 h6 h1 h2
 have hlt:=h.lt hr
 have h0:=h.lo0
 have h7:=h.hi1
 rw[beside_mem,beside_mem]
 rcases h.way with⟨e,hw⟩|e
 ·refine⟨.inr (.inl ⟨hw,e⟩), .inr (.inr (.inr ⟨?_,by omega⟩))⟩
  have e':=Int.emod_add_mul_ediv lo (acr W s)
  have m0:0≤lo% acr W s:=Int.emod_nonneg _ (by omega)
  have:hi=(lo% acr W s+1)+acr W s*(lo/acr W s):=by omega
  rw[this,Int.add_mul_emod_self_left,Int.emod_eq_of_lt (by omega) (by omega)]
  omega
 ·exact⟨.inr (.inr (.inl ⟨by omega,e⟩)), .inl ⟨by omega,by omega⟩⟩
theorem gH {W H s id:Int} (hr:aL W H s=true):eV (aO W H s id) id=false:=by
 obtain⟨h1,h2,h3,h4,h5,h6⟩:=rightB_true.1 hr
 have b1:=bR W s h5 h6 h1 h2
 cases h:eV (aO W H s id) id
 ·rfl
 ·rw[hasI_iff,beside_mem]at h
  omega
theorem qD {W H s lo hi:Int} (hr:aL W H s=true) (h0:0≤lo) (h1:lo<cnt W H s):(aT W H s lo hi).length≤16:=by
 have z:=jU hr h0 h1
 unfold aT
 split
 ·rw[gZ];omega
 ·rw[iX];omega
theorem mA {W H s lo hi:Int} (hr:aL W H s=true) (h0:0≤lo) (hlt:lo<hi) (hid:hi<cnt W H s):eV (aO W H s lo) hi=true↔Pair W H s lo hi:=by
 obtain⟨h1,h2,h3,h4,h5,h6⟩:=rightB_true.1 hr
 have b1:=bR W s h5 h6 h1 h2
 rw[hasI_iff,beside_mem]
 constructor
 ·rintro(h|h|h|h)
  ·omega
  ·exact⟨h0,hid, .inl ⟨h.2,h.1⟩⟩
  ·exact⟨h0,hid, .inr h.2⟩
  ·omega
 ·intro h
  rcases h.way with h'|h'
  ·exact .inr (.inl ⟨h'.2,h'.1⟩)
  ·exact .inr (.inr (.inl ⟨by omega,h'⟩))
theorem Own.drewN {α:Type} {E:Enc α} {w:World} {base:Nat} {e:TypeId} {v:Value} {l:List α} (h:Own E w base e v l) (n:Nat):Own E (w.drewN n) base e v l:=h
set_option maxRecDepth 100000 in
set_option maxHeartbeats 20000000 in
theorem aCa (W H s a b:Int) (w:World) (hr:aL W H s=true) (h0:0≤a) (ha:a<cnt W H s) (h1:0≤b) (hb:b<cnt W H s) (hn:eV (aO W H s (min a b)) (max a b)=true):
  Calls Tryz.prog 129 #[.agg #[.int .i64 W, .int .i64 H, .int .i64 s], .int .i64 a, .int .i64 b] w (wM w (aT W H s (min a b) (max a b)) 0):=by
 have hany:[a,b].any (bad W H s)=false:=by simp[lT h0 ha,lT h1 hb]
 go_enter Tryz.func129,Tryz.ntmps129
 go_upto_region 4 with(first
  |(go_at_call 64;refine(yA W H s _ 0 _ [a,b] _ hr hany (by simp) (by simp) (by exact zY _ _ _ _ _ (by simp))).mono ?_;rintro e w1 ⟨rfl,hb1⟩;obtain⟨hc1,hf1⟩:=hb1.cells;have hz1:=hb1.size;(repeat(first|rw[World.size_alloc]at hz1|rw[World.size_drew]at hz1));have z1_0:w.heap.size<w1.heap.size:=(by omega)))
 have hx1:Ext w w1:=z_x
 go_cut [1,2] (fun s1 s2 wx=>s1= .int .i64 (min a b)∧s2= .int .i64 (max a b)∧w1=wx)
 case first=>
  go_wp2
  all_goals go_meet
  all_goals exact⟨by congr 1;omega,by congr 1;omega,rfl⟩
 case rest=>
  obtain⟨rfl,rfl,rfl⟩:=hcut
  have l0:0≤min a b:=by omega
  have l1:min a b<cnt W H s:=by omega
  have l2:0≤max a b:=by omega
  have l3:max a b<cnt W H s:=by omega
  generalize min a b=lo at *
  generalize max a b=hi at *
  have hlen:=jK W H s lo
  go_upto_region 9 with(first
   |(go_at_call 72;refine(nI W H s lo _ hr l0 l1).mono ?_;rintro e w2 ⟨v,rfl,hb2,hv⟩;have HV:=aA hv;clear hv;obtain⟨hc2,hf2⟩:=hb2.cells;have hz2:=hb2.size;(repeat(first|rw[World.size_alloc]at hz2|rw[World.size_drew]at hz2));have z2_0:w.heap.size<w2.heap.size:=(by omega))
   |(go_at_call 170;refine(xG hi _ (aO W H s lo) _ (by omega) HV.out.reads).mono ?_;rintro e w3 ⟨rfl,hb3⟩;obtain⟨hc3,hf3⟩:=hb3.cells;have hz3:=hb3.size;(repeat(first|rw[World.size_alloc]at hz3|rw[World.size_drew]at hz3));have z3_0:w.heap.size<w3.heap.size:=(by omega)))
  have hx13:Ext w1 w3:=z_x
  have hx3:Ext w w3:=hx1.trans hx13
  have e0:w3.cell? ⟨w.heap.size,0,none⟩=some (.int .i64 W):=by rw[hx13.cell (p:=⟨w.heap.size,0,none⟩) z1_0,hc1 _ _ (by simp;omega)];simp[go_sem]
  have e1:w3.cell? ⟨w.heap.size,1,none⟩=some (.int .i64 H):=by rw[hx13.cell (p:=⟨w.heap.size,1,none⟩) z1_0,hc1 _ _ (by simp;omega)];simp[go_sem]
  have e2:w3.cell? ⟨w.heap.size,2,none⟩=some (.int .i64 s):=by rw[hx13.cell (p:=⟨w.heap.size,2,none⟩) z1_0,hc1 _ _ (by simp;omega)];simp[go_sem]
  clear hx13 hn hany hb1 hc1 hf1 hx1 hb2 hc2 hf2 hb3 hc3 hf3 HV hlen z1_0 z2_0 hz1 hz2 hz3
  go_cut [12,13] (fun s12 s13 wx=> ∃p q:Nat,s12= .pointer (some ⟨p,0,none⟩)∧s13= .pointer (some ⟨q,0,none⟩)∧p<wx.heap.size∧q<wx.heap.size∧Ext w wx∧
   (wx.cell? ⟨p,0,none⟩=some (.int .i64 (aU W s lo))∧wx.cell? ⟨p,1,none⟩=some (.int .i64 (aP W s lo))∧wx.cell? ⟨p,2,none⟩=some (.int .i64 (bB W s lo))∧wx.cell? ⟨p,3,none⟩=some (.int .i64 (bA W H s lo)))∧
   wx.cell? ⟨q,0,none⟩=some (.int .i64 (aU W s hi))∧wx.cell? ⟨q,1,none⟩=some (.int .i64 (aP W s hi)))
  case first=>
   go_region_held3 (fun W=>(∀b o,b<w3.heap.size→W.cell? ⟨b,o,none⟩=w3.cell? ⟨b,o,none⟩)∧Ext w3 W) (first|with_reducible exact aM _|exact aG z_x)
    (first|(go_at_call 65;refine(aBh W H s _ _ hr (by omega) (by omega)).mono ?_;rintro e w4 ⟨rfl,hb4⟩;obtain⟨hc4,hf4⟩:=hb4.cells;have hz4:=hb4.size;(repeat(first|rw[World.size_alloc]at hz4|rw[World.size_drew]at hz4));(try have zA4:=Nat.lt_of_succ_le hz4);(try have zB4:=Nat.lt_of_succ_le (Nat.le_of_succ_le hz4));(try have zC4:w3.heap.size<w4.heap.size:=(by omega));(try have zD4:w3.heap.size+1<w4.heap.size:=(by omega));(try have zE4:w4.heap.size≠w3.heap.size:=(by omega));(try have zF4:w3.heap.size≠w4.heap.size:=(by omega));(try have zG4:w3.heap.size<w4.heap.size+1:=(by omega))))
   all_goals
    rename_i hS
    have hX:=hx3.trans hS.2
    clear hS
    have ar: ∀n:Nat,n<n+1+1:=(fun n=>by omega)
    go_wp2_with fail
    go_meet
    refine⟨_,_,rfl,rfl,?_,?_,hX,⟨?_,?_,?_,?_⟩,?_,?_⟩
    all_goals first
     |(simp[go_sem,bB,bA];done)
     |(simp[go_sem,bB,bA];omega)
     |(simp[go_sem,bB,bA, *];done)
     |(simp[go_sem,bB,bA,hc4,zA4,zB4];done)
     |skip
    all_goals ((try unfold bB);(try unfold bA);go_simp)
  case rest=>
   clear e0 e1 e2 z3_0 hx3
   obtain⟨p,q,rfl,rfl,hp,hq,hx,⟨p0,p1,p2,p3⟩,q0,q1⟩:=hcut
   have hzx:=hx.size
   have bl:=iD hr l0 l1
   have bh:=iD hr l2 l3
   have sl:=jU hr l0 l1
   obtain⟨h1,h2,h3,h4,h5,h6⟩:=rightB_true.1 hr
   cases hrow:(aP W s lo==aP W s hi)
   ·have hrow': ¬aP W s lo=aP W s hi:=by simpa using hrow
    have hbl:aT W H s lo hi=lK (aU W s lo) (aP W s hi) (bB W s lo).toNat:=by unfold aT;rw[if_neg hrow']
    clear hrow'
    obtain⟨N,hN⟩: ∃N:Nat,bB W s lo=(N:Int):=⟨(bB W s lo).toNat,by omega⟩
    rw[hN]at sl p2 hbl
    rw[Int.toNat_natCast]at hbl
    clear hN
    have HB:=aA hbl
    clear hbl
    generalize aU W s lo=X1 at *
    generalize aP W s hi=Y2 at *
    go_wp2
    go_loopw [11,79] (fun out i wr=> ∃k:Nat,k≤N∧i= .int .i64 k∧Own bV wr wc.heap.size 225 out (lK X1 Y2 k)∧Below wc.heap.size wc wr) (fun _ i _=>N-(intOf i).toNat)
    case atStart=>exact⟨0,by omega,rfl,Own.nil _ _ _ _,Below.refl _ _⟩
    case round=>
     obtain⟨k,hk,rfl,hown,hbel⟩:=hrel
     have HO:=aA hown
     have hcr:=gG hbel
     have hz:=hbel.size
     have hlen:=iX X1 Y2 k
     have HS:=aA (aFg X1 Y2 k)
     by_cases hlt:k<N
     ·clear hown
      go_wp2_with (at_builtin;refine dU bV aBb rfl _ _ rfl wc.heap.size _ _ (lK X1 Y2 k) rfl HO.out ((X1+(k:Int),Y2-1),(X1+(k:Int),Y2)) _ _ rfl _ rfl rfl (by omega) (by omega) (by omega) ?_;intro g c w' hown' hbel';have HO':=aA hown';clear hown')
      go_roundw
      case rel=>exact⟨k+1,by omega,by go_num,by rw[HS.out];have h9:=HO'.out;rw[hlen]at h9;exact h9,hbel.trans hbel'⟩
      case measure=>simp[intOf];omega
     ·obtain rfl:k=N:=by omega
      clear hown
      go_wp2
      go_ret2
      exact⟨_,rfl,hx.of_below hbel hx.size,by rw[HB.out];exact HO.out.lower hx.size⟩
   ·have hrow':aP W s lo=aP W s hi:=by simpa using hrow
    have hbl:aT W H s lo hi=iO (aU W s hi) (aP W s lo) (bA W H s lo).toNat:=by unfold aT;rw[if_pos hrow']
    clear hrow'
    obtain⟨N,hN⟩: ∃N:Nat,bA W H s lo=(N:Int):=⟨(bA W H s lo).toNat,by omega⟩
    rw[hN]at sl p3 hbl
    rw[Int.toNat_natCast]at hbl
    clear hN
    have HB:=aA hbl
    clear hbl
    generalize aU W s hi=X2 at *
    generalize aP W s lo=Y1 at *
    go_wp2
    go_loopw [11,53] (fun out i wr=> ∃k:Nat,k≤N∧i= .int .i64 k∧Own bV wr wc.heap.size 225 out (iO X2 Y1 k)∧Below wc.heap.size wc wr) (fun _ i _=>N-(intOf i).toNat)
    case atStart=>exact⟨0,by omega,rfl,Own.nil _ _ _ _,Below.refl _ _⟩
    case round=>
     obtain⟨k,hk,rfl,hown,hbel⟩:=hrel
     have HO:=aA hown
     have hcr:=gG hbel
     have hz:=hbel.size
     have hlen:=gZ X2 Y1 k
     have HS:=aA (aDi X2 Y1 k)
     by_cases hlt:k<N
     ·clear hown
      go_wp2_with (at_builtin;refine dU bV aBb rfl _ _ rfl wc.heap.size _ _ (iO X2 Y1 k) rfl HO.out ((X2-1,Y1+(k:Int)),(X2,Y1+(k:Int))) _ _ rfl _ rfl rfl (by omega) (by omega) (by omega) ?_;intro g c w' hown' hbel';have HO':=aA hown';clear hown')
      go_roundw
      case rel=>exact⟨k+1,by omega,by go_num,by rw[HS.out];have h9:=HO'.out;rw[hlen]at h9;exact h9,hbel.trans hbel'⟩
      case measure=>simp[intOf];omega
     ·obtain rfl:k=N:=by omega
      clear hown
      go_wp2
      go_ret2
      exact⟨_,rfl,hx.of_below hbel hx.size,by rw[HB.out];exact HO.out.lower hx.size⟩
def tG (W H s a b:Int):List (aB×aB):=if eV (aO W H s (min a b)) (max a b)=true then aT W H s (min a b) (max a b) else[]
theorem aAa {W H s lo hi:Int} (hr:aL W H s=true) (h0:0≤lo) (h1:lo<cnt W H s):1≤(aT W H s lo hi).length:=by
 have z:=jU hr h0 h1
 unfold aT
 split
 ·rw[gZ];omega
 ·rw[iX];omega
end Go.Proofs.YtaellcgglldjaaaGreat

