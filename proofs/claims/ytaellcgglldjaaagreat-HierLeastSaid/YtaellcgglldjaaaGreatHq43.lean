/- Part of a proof: HierDr RouteD HierDs HierDt FarW. -/
import Derived.Test.YtaellcgglldjaaaGreatHq42
import Derived.Test.YtaellcgglldjaaaGreatHq39
import Derived.Test.YtaellcgglldjaaaGreatHq23
import Derived.Test.YtaellcgglldjaaaGreatHq14
import Derived.Test.YtaellcgglldjaaaGreatHq01
set_option linter.all false
set_option linter.unusedVariables false
set_option linter.unusedSimpArgs false
namespace Go.Proofs.YtaellcgglldjaaaGreat
open Go.RowKit
section
variable (W H s:Int) (l:List Int)
def sdC (i k:Nat):aB:=(vx W i+aQ k,vy W i+aR k)
def eT (far:Nat→Int) (i k:Nat):Nat→Int:=
 if inB W H (sdC W i k).1 (sdC W i k).2=true∧aH l W (sdC W i k)≠0∧far i+aH l W (sdC W i k)<far (aC W (sdC W i k))∧dO W s (aI W H s l) (aD W i) (sdC W i k)=true then
  bG far (aC W (sdC W i k)) (far i+aH l W (sdC W i k)) else far
def cH (far:Nat→Int) (i:Nat):Nat→Nat→Int
 |0=>far
 |k+1=>eT W H s l (cH far i k) i k
def iM (far:Nat→Int) (i:Nat):Nat→Int:=if far i=aE then far else cH W H s l far i 4
def eO (far:Nat→Int):Nat→Nat→Int
 |0=>far
 |m+1=>iM W H s l (eO far m) m
end
section
variable {W H s:Int} {l:List Int}
theorem yV (far:Nat→Int) (i k v:Nat):eT W H s l far i k v≤far v:=by
 unfold eT
 split
 ·next h=>
  unfold bG
  split
  ·next e=>subst e;omega
  ·exact Int.le_refl _
 ·exact Int.le_refl _
theorem jA (far:Nat→Int) (i v:Nat): ∀k,cH W H s l far i k v≤far v
 |0=>Int.le_refl _
 |k+1=>Int.le_trans (yV _ i k v) (jA far i v k)
theorem yW (far:Nat→Int) (i v:Nat):iM W H s l far i v≤far v:=by
 unfold iM
 split
 ·exact Int.le_refl _
 ·exact jA far i v 4
theorem lL (far:Nat→Int) (v:Nat): ∀m,eO W H s l far m v≤far v
 |0=>Int.le_refl _
 |m+1=>Int.le_trans (yW _ m v) (lL far v m)
theorem aDq (g:Good W H s l) (v:Nat):aC W (aD W v)=v:=by
 have hb:=mayB_true.1 (checkE_ok.1 g.ok).1
 exact dZ (by omega) v
theorem aFu (g:Good W H s l) {z:Nat} {D:Nat→Int} (F:IsFar (aZ g) z D) {far:Nat→Int} (h:dK D far) (hle: ∀v,far v≤aE) {i k:Nat} (hk:k<4) (hi:far i<aE):dK D (eT W H s l far i k):=by
 intro v
 unfold eT
 split
 ·next hc=>
  unfold bG
  split
  ·next e=>
   subst e
   obtain⟨c1,c2,c3,c4⟩:=hc
   have hDi:=h i
   have hoi:=F.open_ (v:=i) (by omega)
   have iv:=(fJ g ((aZ g).lt i hoi)).1
   have hidx:=aDq g i
   have hco:=bI g.u16 W (sdC W i k)
   have hom:(aZ g).op (aC W (sdC W i k))=true:=(dW g c1).2 (by omega)
   have hkc:(aZ g).cost (aC W (sdC W i k))=aH l W (sdC W i k):=rfl
   have hfm:=hle (aC W (sdC W i k))
   by_cases hs:aC W (sdC W i k)=z
   ·rw[←hs]at F
    rw[F.start hom]
    have:=F.nn i
    omega
   ·have oi:0<aH l W (aD W i):=(dW g iv).1 (by rw[hidx];exact hoi)
    have ha:=zN g (a:=aD W i) (b:=sdC W i k) iv c1 oi (kG ⟨k,hk,rfl⟩)
    rw[hidx]at ha
    have hadj:i∈(aZ g).adj (aC W (sdC W i k)):=k_adj.2 ⟨ha,by rw[aW c1];exact c4⟩
    have:=F.near _ hom hs i hadj hoi (by rw[hkc];omega)
    rw[hkc]at this
    omega
  ·exact h v
 ·exact h v
theorem vG (g:Good W H s l) {z:Nat} {D:Nat→Int} (F:IsFar (aZ g) z D) {far:Nat→Int} (h:dK D far) (hle: ∀v,far v≤aE) {i:Nat} (hi:far i<aE): ∀k,k≤4→dK D (cH W H s l far i k)
 |0,_=>h
 |k+1,hk=>aFu g F (vG g F h hle hi k (by omega)) (fun v=>Int.le_trans (jA far i v k) (hle v)) (by omega) (Int.lt_of_le_of_lt (jA far i i k) hi)
theorem aFv (g:Good W H s l) {z:Nat} {D:Nat→Int} (F:IsFar (aZ g) z D) {far:Nat→Int} (h:dK D far) (hle: ∀v,far v≤aE) (i:Nat):dK D (iM W H s l far i):=by
 unfold iM
 split
 ·exact h
 ·next hn=>
  have:=hle i
  exact vG g F h hle (by omega) 4 (Nat.le_refl _)
theorem pB (g:Good W H s l) {z:Nat} {D:Nat→Int} (F:IsFar (aZ g) z D) {far:Nat→Int} (h:dK D far) (hle: ∀v,far v≤aE): ∀m,dK D (eO W H s l far m)
 |0=>h
 |m+1=>aFv g F (pB g F h hle m) (fun v=>Int.le_trans (lL far v m) (hle v)) m
theorem sQ (far:Nat→Int) {i k:Nat} (h1:inB W H (sdC W i k).1 (sdC W i k).2=true) (h2:aH l W (sdC W i k)≠0) (h3:dO W s (aI W H s l) (aD W i) (sdC W i k)=true): ∀n,k<n→cH W H s l far i n (aC W (sdC W i k))≤far i+aH l W (sdC W i k)
 |n+1,hk=>by
  by_cases e:k=n
  ·subst e
   have h4:=jA (W:=W) (H:=H) (s:=s) (l:=l) far i i k
   show eT W H s l (cH W H s l far i k) i k _≤_
   unfold eT
   split
   ·rw[bU];omega
   ·next hn=>
    have: ¬(cH W H s l far i k i+aH l W (sdC W i k)<cH W H s l far i k (aC W (sdC W i k))):=fun hlt=>hn ⟨h1,h2,hlt,h3⟩
    omega
  ·exact Int.le_trans (yV _ i n _) (sQ far h1 h2 h3 n (by omega))
theorem sR (far:Nat→Int) {i k:Nat} (hk:k<4) (h1:inB W H (sdC W i k).1 (sdC W i k).2=true) (h2:aH l W (sdC W i k)≠0) (h3:dO W s (aI W H s l) (aD W i) (sdC W i k)=true) (hu:far i<aE): ∀m,i<m→eO W H s l far m (aC W (sdC W i k))≤far i+aH l W (sdC W i k)
 |m+1,hm=>by
  by_cases e:i=m
  ·subst e
   have h4:=lL (W:=W) (H:=H) (s:=s) (l:=l) far i i
   show iM W H s l (eO W H s l far i) i _≤_
   unfold iM
   rw[if_neg (by omega)]
   have:=sQ (eO W H s l far i) h1 h2 h3 4 hk
   omega
  ·exact Int.le_trans (yW _ m _) (sR far hk h1 h2 h3 hu m (by omega))
def iR (W H s:Int) (l:List Int) (far:Nat→Int):Nat→Int:=eO W H s l far l.length
theorem aIt (g:Good W H s l) (far:Nat→Int) {u v:Nat} (hv:(aZ g).op v=true) (huo:(aZ g).op u=true) (hu:u∈(aZ g).adj v) (hf:far u<aE):iR W H s l far v≤far u+(aZ g).cost v:=by
 have iv:=(fJ g ((aZ g).lt v hv)).1
 have iu:=(fJ g ((aZ g).lt u huo)).1
 have ev:=aDq g v
 have eu:=aDq g u
 obtain⟨k,hk,hs⟩:=kG (wT g iu iv (by rw[eu,ev];exact hu))
 have hm:sdC W u k=aD W v:=hs.symm
 have hc:(aZ g).cost v=aH l W (aD W v):=by
  show l.getD v 0=l.getD (aC W (aD W v)) 0
  rw[ev]
 have ov:0<aH l W (aD W v):=(dW g iv).1 (by rw[ev];exact hv)
 have:=sR (W:=W) (H:=H) (s:=s) (l:=l) far (i:=u) hk (by rw[hm];exact iv) (by rw[hm];omega) (by rw[hm];exact(k_adj.1 hu).2) hf l.length ((aZ g).lt u huo)
 rw[hm,ev]at this
 rw[hc]
 exact this
theorem vQ (g:Good W H s l) {z:Nat} {D:Nat→Int} (F:IsFar (aZ g) z D) {far:Nat→Int} (h:dK D far) (hle: ∀v,far v≤aE) (hs:far z=D z) (hne: ∃v,far v≠D v):kF l.length D far<kF l.length D (iR W H s l far):=by
 have hfin: ∀v,far v≠D v→D v<aE:=fun v hv=>by
  have h1:=h v
  have h2:=hle v
  omega
 have hlow:dK D (iR W H s l far):=pB g F h hle _
 obtain⟨v,hv,hmin⟩: ∃v,far v≠D v∧ ∀u,far u≠D u→D v≤D u:=by
  obtain⟨v0,h0⟩:=hne
  have: ∀k:Nat,∀v,far v≠D v→D v=(k:Int)→ ∃v,far v≠D v∧ ∀u,far u≠D u→D v≤D u:=by
   intro k
   induction k using Nat.strongRecOn with
   |_ k ih=>
    intro v hv hk
    by_cases hex: ∃u,far u≠D u∧D u<D v
    ·obtain⟨u,hu,hlt⟩:=hex
     exact ih (D u).toNat (by have:=F.nn u;omega) u hu (by have:=F.nn u;omega)
    ·exact⟨v,hv,fun u hu=>Int.not_lt.1 fun hlt=>hex ⟨u,hu,hlt⟩⟩
  exact this (D v0).toNat v0 h0 (by have:=F.nn v0;omega)
 have hvf:=hfin v hv
 have hov:=F.open_ hvf
 have hvs:v≠z:=fun e=>hv (e▸hs)
 obtain⟨u,hu,huo,he⟩:=F.from_ v hov hvs hvf
 have hc:=(aZ g).pos v hov
 have huR:far u=D u:=by
  by_cases e:far u=D u
  ·exact e
  ·have:=hmin u e
   omega
 have hn:=aIt g far hov huo hu (by omega)
 have hlt:v<l.length:=(aZ g).lt v hov
 refine qX (fun x _ hx=> ?_) ⟨v,List.mem_range.2 hlt,?_,by simpa using hv⟩
 ·simp only[decide_eq_true_eq]at hx⊢
  have h1:=lL (W:=W) (H:=H) (s:=s) (l:=l) far x l.length
  have h2:=hlow x
  show eO W H s l far l.length x=D x
  unfold iR at h2
  omega
 ·simp only[decide_eq_true_eq]
  have h2:=hlow v
  omega
def oX (W:Int) (l:List Int) (f:aB):Nat→Int:=if aH l W f≠0 then bG (fun _=>aE) (aC W f) 0 else fun _=>aE
theorem aGq (g:Good W H s l) {f:aB} (hf:inB W H f.1 f.2=true) {D:Nat→Int} (F:IsFar (aZ g) (aC W f) D):Rnds D (oX W l f) (aC W f) l.length 0:=by
 have hb:=bI g.u16 W f
 unfold oX
 split
 ·have ho:=(dW g hf).2 (by omega)
  refine⟨fun v=> ?_,fun v=> ?_,by rw[bU,F.start ho], .inr ?_⟩
  ·unfold bG
   split
   ·next e=>subst e;rw[F.start ho];exact Int.le_refl _
   ·exact F.le v
  ·unfold bG
   split
   ·decide
   ·exact Int.le_refl _
  ·have:0<kF l.length D (bG (fun _=>aE) (aC W f) 0):=by
    refine List.countP_pos_iff.2 ⟨aC W f,List.mem_range.2 ((aZ g).lt _ ho),?_⟩
    rw[bU,F.start ho];rfl
   omega
 ·next hc=>
  have hD: ∀v,D v=aE:=fun v=>by
   have:=F.le v
   by_cases e:D v<aE
   ·have:=(dW g hf).1 (F.way_of e).ends.1
    omega
   ·omega
  exact⟨fun v=>by rw[hD v];exact Int.le_refl _,fun _=>Int.le_refl _,(hD _).symm, .inl fun v=>(hD v).symm⟩
theorem aIu (g:Good W H s l) {z r:Nat} {D far:Nat→Int} (F:IsFar (aZ g) z D) (h:Rnds D far z l.length r):Rnds D (iR W H s l far) z l.length (r+1):=by
 have hlow:dK D (iR W H s l far):=pB g F h.low h.le _
 have hle: ∀v,iR W H s l far v≤far v:=fun v=>lL far v _
 refine⟨hlow,fun v=>Int.le_trans (hle v) (h.le v),?_,?_⟩
 ·have h1:=hle z
  have h2:=hlow z
  have:=h.at_
  omega
 ·by_cases hd: ∀v,far v=D v
  ·left
   intro v
   have h1:=hle v
   have h2:=hlow v
   have:=hd v
   omega
  ·right
   have hne: ∃v,far v≠D v:=by simpa using hd
   have:=vQ g F h.low h.le h.at_ hne
   rcases h.many with hm|hm
   ·exact absurd hm hd
   ·omega
theorem aGr (g:Good W H s l) {z r:Nat} {D far:Nat→Int} (F:IsFar (aZ g) z D) (h:Rnds D far z l.length r) (he: ∀v,iR W H s l far v=far v): ∀v,far v=D v:=by
 by_cases hd: ∀v,far v=D v
 ·exact hd
 ·have hne: ∃v,far v≠D v:=by simpa using hd
  have:=vQ g F h.low h.le h.at_ hne
  rw[show iR W H s l far=far from funext he]at this
  omega
theorem BdT.push (hu:cS l) {T:Nat} {far:Nat→Int} (h:BdT T far) (ht:T<100000000000) {i:Nat} (hi:far i≠aE) (k:Nat):BdT (T+1) (eT W H s l far i k):=by
 intro v
 have hc:=bI hu W (sdC W i k)
 unfold eT
 split
 ·unfold bG
  split
  ·have h1:=h i
   have h2:=h1.2.2 (by omega)
   have e:aE=18446744073709551615:=rfl
   refine⟨by omega,by omega,fun _=>by omega⟩
  ·exact(h.mono (Nat.le_succ T)) v
 ·exact(h.mono (Nat.le_succ T)) v
theorem aJx (W:Int) (l:List Int) (f:aB):BdT 0 (oX W l f):=fun v=>by
 have e:aE=18446744073709551615:=rfl
 unfold oX
 split
 ·unfold bG
  simp only
  split
  ·exact⟨by omega,by omega,fun _=>by omega⟩
  ·exact⟨by omega,Int.le_refl _,fun h=>absurd h (Int.lt_irrefl _)⟩
 ·exact⟨by show 0≤aE;omega,Int.le_refl _,fun h=>absurd h (Int.lt_irrefl _)⟩
end
end Go.Proofs.YtaellcgglldjaaaGreat

namespace Go.Proofs.YtaellcgglldjaaaGreat
open Go.RowKit
def jF (W:Int) (l:List Int) (p:List aB):Nat→Int
 |0=>0
 |k+1=>if k=0 then 0 else jF W l p k+l.getD (aC W (p.getD k (0,0))) 0
theorem aC7 {W:Int} {l:List Int} {p:List aB} (hu:cS l): ∀k,0≤jF W l p k∧jF W l p k≤65535*(k:Int)
 |0=>by simp[jF]
 |k+1=>by
  have h:=aC7 (W:=W) (p:=p) hu k
  have hb:0≤l.getD (aC W (p.getD k (0,0))) 0∧l.getD (aC W (p.getD k (0,0))) 0≤65535:=by
   by_cases hi:aC W (p.getD k (0,0))<l.length
   ·have:=hu (l.getD (aC W (p.getD k (0,0))) 0) (by rw[List.getD_eq_getElem?_getD,List.getElem?_eq_getElem hi];exact List.getElem_mem _)
    omega
   ·rw[List.getD_eq_getElem?_getD,List.getElem?_eq_none (by omega)]
    simp
  unfold jF
  split<;>omega
set_option maxRecDepth 100000 in
set_option maxHeartbeats 2000000 in
theorem aGa {w:World} {W H:Int} {a:Option Addr} {l:List Int} (c:Nat) {pa:Option Addr} {p:List aB} (pc:Nat) (hck:aS W H l.length=0) (hr:Row16 w a l) (hu:cS l) (hc:RowC w pa p) (hpc:p.length≤pc) (G:gN W H l p):
  Calls Tryz.prog 32 #[.agg #[.int .i64 W, .int .i64 H, .slice a l.length c], .slice pa p.length pc] w fun e w'=>e= .returned (.tuple #[.int .u64 (jF W l p p.length), .int .i64 0])∧Ext w w':=by
 have HCK:=aA (fun(w':World) (hx:Ext w w')=>sX (w:=w') c pc hck (hr.ext hx) (hc.ext hx) G)
 have wh:=mayB_true.1 (checkE_ok.1 hck).1
 have hlen:=(checkE_ok.1 hck).2
 obtain⟨b,off,rfl,hb,hcc⟩:=hc G.pos
 have HCC:=aA hcc
 have HG:=aA G
 have HR:=aA hr
 have HBD:=aA (fun k=>aC7 (W:=W) (p:=p) hu k)
 have hp0:=G.pos
 have hpf:=G.few
 obtain⟨S,hS⟩: ∃S,jF W l p=S:=⟨_,rfl⟩
 have HSS:Hid (∀k,S (k+1)=if k=0 then 0 else S k+l.getD (aC W (p.getD k (0,0))) 0):=aA (fun k=>by rw[←hS];rfl)
 rw[hS]at HBD⊢
 have HUB:=aA (fun i (hi:i<l.length)=>hu l[i] (List.getElem_mem hi))
 obtain⟨m,hm⟩: ∃z,p.length=z:=⟨_,rfl⟩
 obtain⟨n,hn⟩: ∃z,l.length=z:=⟨_,rfl⟩
 have HMM:=aA hm
 have HNN:=aA hn
 rw[hn]at HCK hlen⊢
 rw[hm]at HCK hp0 hpf hpc⊢
 clear hck hr hu hc G hcc hm hn hS
 go_enter Tryz.func32,Tryz.ntmps32
 go_wp2_with fail
 refine(HCK.out _ z_x).mono ?_
 rintro e w1 ⟨rfl,hb1⟩
 have B0:Hid (Blk w1 (w.heap.size) 26 #[.int .i64 W, .int .i64 H, .slice a n c]):=aA (by refine Blk.ext ?_ hb1;(repeat' (first|exact Blk.new_ (by simp)|refine Blk.drew ?_|refine Blk.over ?_)))
 have X1:=aA (show Ext w w1 from z_x)
 have jm:(1:Int)≤(m:Int):=by omega
 have jm':1≤m:=hp0
 have jpc:(m:Int)≤(pc:Int):=by omega
 clear hb1
 by_cases hp1:pc=1
 ·obtain rfl:=hp1
  obtain rfl:m=1:=by omega
  have HS1:=aA (show S 1=0 by rw[HSS.out 0];rfl)
  clear HBD HUB HR HCC
  go_wp2_with fail
  go_loopw [7,19] (fun nv iv wr=>iv= .int .i64 0∧nv= .int .u64 0∧Ext w1 wr) (fun _ iv _=>0)
  case atStart=>exact⟨rfl,rfl,Ext.refl _⟩
  case round=>
   obtain⟨rfl,rfl,hx⟩:=hrel
   go_wp2_with fail
   go_ret2
   exact⟨by rw[HS1.out];rfl,X1.out.trans hx⟩
 ·have jp1:(1:Int)<(pc:Int):=by omega
  have jp2:1<pc:=by omega
  have jp3: ¬pc-1=0:=by omega
  go_wp2_with fail
  go_loopw [7,19] (fun nv iv wr=> ∃k:Nat,k+1≤m∧iv= .int .i64 k∧nv= .int .u64 (S (k+1))∧Ext w1 wr) (fun _ iv _=>m-(intOf iv).toNat)
  case atStart=>exact⟨0,hp0,rfl,by rw[HSS.out 0];rfl,Ext.refl _⟩
  case round=>
   obtain⟨k,hk,rfl,rfl,hx⟩:=hrel
   have XR:=aA hx
   have C0:=aA (B0.out.ext hx)
   have f0:=C0.out.at 0 rfl;have f1:=C0.out.at 1 rfl;have f2:=C0.out.at 2 rfl;have fz:=C0.out.lt
   by_cases hlt:k+1<m
   ·have hkl:k+1<p.length:=by rw[HMM.out];exact hlt
    have hon:=HG.out.on (k+1) hkl
    have hcl:=HCC.out (k+1) hkl
    have hq':p.getD (k+1) (0,0)=p[k+1]:=by simp[List.getD_eq_getElem?_getD,hkl]
    have hs:=HSS.out (k+1)
    rw[if_neg (by omega),hq']at hs
    rw[hq']at hon
    have hbd:=HBD.out (k+1)
    obtain⟨⟨qx,qy⟩,hq⟩: ∃z,p[k+1]=z:=⟨_,rfl⟩
    rw[hq]at hon hcl hs
    have bq:=inB_true.1 hon.1
    simp only at hon hcl bq
    have hxw:=X1.out.trans hx
    have y0:wr.cell? ⟨b,off+2+k*2,none⟩=some (.int .i64 qx):=by rw[show off+2+k*2=off+(k+1)*2 by omega];exact(hxw.cell (p:=⟨b,_,none⟩) hb).trans hcl.1
    have y1:wr.cell? ⟨b,off+2+k*2+1,none⟩=some (.int .i64 qy):=by rw[show off+2+k*2=off+(k+1)*2 by omega];exact(hxw.cell (p:=⟨b,_,none⟩) hb).trans hcl.2
    have yz:b<wr.heap.size:=Nat.lt_of_lt_of_le hb hxw.size
    obtain⟨J,hJ⟩: ∃z,aC W (qx,qy)=z:=⟨_,rfl⟩
    have hi2:=bP (W:=W) (x:=qx) (y:=qy) (by omega) (by omega) (by omega)
    rw[hJ]at hi2 hon hs
    have m1:=cP (a:=qy) (b:=W) (A:=256) (B:=256) (by omega) (by omega) (by omega) (by omega)
    have kk1:IntKind.i64.wrap (qy*W)=qy*W:=IntWalk.i64_in _ (by omega)
    have kk2:IntKind.i64.wrap (qy*W+qx)=(J:Int):=by rw[hi2];exact IntWalk.i64_in _ (by omega)
    have hJn:J<n:=by
     have m2:=Int.mul_le_mul_of_nonneg_right (show qy≤H-1 by omega) (show 0≤W by omega)
     rw[Int.sub_mul,Int.one_mul,Int.mul_comm H W]at m2
     omega
    obtain⟨ab,ao,rfl,hab,hac⟩:=HR.out (by rw[HNN.out];omega)
    have hJl:J<l.length:=by rw[HNN.out];exact hJn
    have hc2:=hac J hJl
    have hub:=HUB.out J hJl
    have hcst:l.getD J 0=l[J]:=by simp[List.getD_eq_getElem?_getD,hJl]
    rw[hcst]at hs
    obtain⟨cst,hcs⟩: ∃z,l[J]=z:=⟨_,rfl⟩
    rw[hcs]at hc2 hs hub
    have y2:=(hxw.cell (p:=⟨ab,ao+J,none⟩) hab).trans hc2
    have yz2:ab<wr.heap.size:=Nat.lt_of_lt_of_le hab hxw.size
    obtain⟨sv,hsv⟩: ∃z,S (k+1)=z:=⟨_,rfl⟩
    rw[hsv]at hs hbd⊢
    have HNXT:=aA hs
    have w1':IntKind.u64.wrap cst=cst:=by rw[IntKind.wrap_u64];omega
    have w2':IntKind.u64.wrap (sv+cst)=sv+cst:=by rw[IntKind.wrap_u64];omega
    have jJ:(J:Int)<(n:Int):=by omega
    have jk:(k:Int)<((m-1:Nat):Int):=by omega
    have jk':k<m-1:=by omega
    clear hkl hon hcl hq' hs hbd hq bq hxw hJ hi2 m1 hac hJl hc2 hub hcst hcs hsv hx
    go_wp2_with fail
    go_roundw
    case rel=>exact⟨k+1,by omega,by go_num,by rw[HNXT.out],XR.out.trans z_x⟩
    case measure=>simp[intOf];omega
   ·obtain rfl:m=k+1:=by omega
    clear f0 f1 f2 fz
    go_wp2_with fail
    go_ret2
    exact⟨rfl,X1.out.trans XR.out⟩
end Go.Proofs.YtaellcgglldjaaaGreat

namespace Go.Proofs.YtaellcgglldjaaaGreat
open Go.RowKit
theorem fA {α:Type} {E:Enc α} {w:World} {base g n c:Nat} {e:TypeId} {l:List α} (h:Own E w base e (.slice (some ⟨g,0,none⟩) n c) l) {k:Nat} {y:α} (hk:l[k]? =some y) {j:Nat} {u:Value} (hu:(E.cells y)[j]? =some u):w.cell? ⟨g,k*E.size+j,none⟩=some u:=by
 have h1:=(Reads.cells h.reads).2.2 k y hk j u hu
 rw[Nat.zero_add]at h1
 exact h1
theorem aI8 {α:Type} {E:Enc α} {w:World} {base:Nat} {e:TypeId} {v:Value} {l:List α} (h:Own E w base e v l) (hl:0<l.length): ∃g c,v= .slice (some ⟨g,0,none⟩) l.length c∧base≤g∧g<w.heap.size:=by
 rcases h.2 with⟨_,hn⟩|⟨g,cap,cur,hv,hb,hg,_⟩
 ·omega
 ·exact⟨g,cap,hv,hb,lt_of_block hg⟩
section
variable {W H s:Int} {l:List Int}
theorem sE (g:Good W H s l): ∀(q:List aB) (a:aB),inB W H a.1 a.2=true→dR g a q→ ∀(k:Nat) (x y:aB),(a::q)[k]? =some x→(a::q)[k+1]? =some y→dO W s (aI W H s l) x y=true
 |[],a,_,_,k,x,y,_,h2=>by simp at h2
 |c::q,a,ha,hg,0,x,y,h1,h2=>by
  simp only[List.getElem?_cons_zero,Option.some.injEq]at h1
  subst h1
  simp only[List.getElem?_cons_succ,List.getElem?_cons_zero,Option.some.injEq]at h2
  subst h2
  have:=(k_adj.1 hg.1.2.2).2
  rw[aW ha,aW hg.1.1]at this
  exact this
 |c::q,a,ha,hg,k+1,x,y,h1,h2=>by
  rw[List.getElem?_cons_succ]at h1 h2
  exact sE g q c hg.1.1 hg.2 k x y h1 h2
theorem xM: ∀(q:List aB) (a:aB),(a::q)[q.length]? =some (iV a q)
 |[],_=>rfl
 |b::q,a=>by
  rw[List.length_cons,List.getElem?_cons_succ]
  exact xM q b
theorem zR (f:aB) (q:List aB): ∀k,k≤q.length→jF W l (f::q) (k+1)=gR l W (q.take k)
 |0,_=>by simp[jF,gR]
 |k+1,hk=>by
  have hq:=List.getElem?_eq_getElem (l:=q) (i:=k) (by omega)
  have h1:jF W l (f::q) (k+1+1)=jF W l (f::q) (k+1)+l.getD (aC W ((f::q).getD (k+1) (0,0))) 0:=by
   rw[jF,if_neg (by omega)]
  rw[h1,zR f q k (by omega),List.take_add_one,hq,Option.toList_some,rM]
  have h2:(f::q).getD (k+1) (0,0)=q[k]:=by
   rw[List.getD_eq_getElem?_getD,List.getElem?_cons_succ,hq,Option.getD_some]
  rw[h2]
  show _=_+(aH l W q[k]+0)
  rw[Int.add_zero]
  rfl
theorem aK3 (g:Good W H s l) (hl:l.length≤150) {f t:aB} (hf:inB W H f.1 f.2=true) (ht:inB W H t.1 t.2=true) {D:Nat→Int} (F:IsFar (aZ g) (aC W f) D) {p:List aB} {c k e:Int} (h:HSrch W H s l f t l.length p c k e):
  (D (aC W t)=aE∧e=22∧p=[]∧c=0)∨
  (D (aC W t)≠aE∧e=0∧c=D (aC W t)∧gN W H l p∧jF W l p p.length=c∧p[0]? =some f∧p[p.length-1]? =some t∧ ∀(k:Nat) (x y:aB),p[k]? =some x→p[k+1]? =some y→dO W s (aI W H s l) x y=true):=by
 have hle:=F.le (aC W t)
 have hlen:=sF h
 rcases yE g hl hf ht F h with⟨hn,rfl,rfl,rfl⟩|⟨hd,rfl,hc,⟨q,rfl,hq,he,hsum⟩,of,_⟩
 ·exact .inl ⟨by omega,rfl,rfl,rfl⟩
 ·refine .inr ⟨by omega,rfl,hc,aBu g hf of hq (by omega),?_,rfl,?_,sE g q f hf hq⟩
  ·rw[List.length_cons,zR f q _ (Nat.le_refl _),List.take_length,hsum]
  ·rw[List.length_cons,Nat.add_sub_cancel,xM,he]
end
end Go.Proofs.YtaellcgglldjaaaGreat

namespace Go.Proofs.YtaellcgglldjaaaGreat
open Go.RowKit
theorem aCl {G:List (aB×aB)} {a b:aB} {k:Nat} {e:aB×aB} (h:G[k]? =some e) (h0: ∀x∈G.take k,x≠(a,b)∧x≠(b,a)) (h1:e≠(a,b)∧e≠(b,a)): ∀x∈G.take (k+1),x≠(a,b)∧x≠(b,a):=by
 intro x hx
 rw[List.take_add_one,h]at hx
 rcases List.mem_append.1 hx with hx|hx
 ·exact h0 x hx
 ·have:x=e:=by simpa using hx
  rw[this]
  exact h1
set_option maxRecDepth 100000 in
set_option maxHeartbeats 2000000 in
theorem aAe {w:World} {W H s:Int} {ga:Option Addr} {G:List (aB×aB)} {gc:Nat} {ax ay bx byy:Int} (hr:aL W H s=true) (ha:inB W H ax ay=true) (hb:inB W H bx byy=true) (hn:G.length≤100000) (hG:Reads bV w (.slice ga G.length gc) G):
  Calls Tryz.prog 31 #[.agg #[.int .i64 W, .int .i64 H, .int .i64 s], .slice ga G.length gc, .agg #[.int .i64 ax, .int .i64 ay], .agg #[.int .i64 bx, .int .i64 byy]] w fun e w'=>e= .returned (.bool (dO W s G (ax,ay) (bx,byy)))∧Ext w w':=by
 have HO1:=aA (fun w'=>fQ W H s ax ay w' hr ha)
 have HO2:=aA (fun w'=>fQ W H s bx byy w' hr hb)
 have HC:=aA (cross_iff (W:=W) (s:=s) (G:=G) (a:=(ax,ay)) (b:=(bx,byy)))
 have HGG:=aA hG
 obtain⟨R,hR⟩: ∃z,dO W s G (ax,ay) (bx,byy)=z:=⟨_,rfl⟩
 simp only at HC
 rw[hR]at HC⊢
 obtain⟨i1,hi1⟩: ∃z,ofN W s ax ay=z:=⟨_,rfl⟩
 obtain⟨i2,hi2⟩: ∃z,ofN W s bx byy=z:=⟨_,rfl⟩
 rw[hi1]at HO1 HC
 rw[hi2]at HO2 HC
 obtain⟨n,hnn⟩: ∃z,G.length=z:=⟨_,rfl⟩
 have HN:=aA hnn
 have HNB:=aA hn
 rw[hnn]at HGG HNB⊢
 clear hr ha hb hn hG hR hi1 hi2 hnn
 go_enter Tryz.func31,Tryz.ntmps31
 go_upto_region 1 with(fail)
 obtain⟨w1,hw1⟩: ∃z,z=((w.alloc (.cells #[.int .i64 W, .int .i64 H, .int .i64 s] 53)).alloc (.cells #[.int .i64 ax, .int .i64 ay] 28)).alloc (.cells #[.int .i64 bx, .int .i64 byy] 28):=⟨_,rfl⟩
 have X1:=aA (show Ext w w1 by rw[hw1];exact(((Ext.refl _).alloc _).alloc _).alloc _)
 have P1:=aA (show Blk w1 w.heap.size 53 #[.int .i64 W, .int .i64 H, .int .i64 s] by rw[hw1];exact(Blk.new_ rfl).over.over)
 have A1:=aA (show Blk w1 (w.heap.size+1) 28 #[.int .i64 ax, .int .i64 ay] by rw[hw1];exact(Blk.new_ (by simp)).over)
 have B1:=aA (show Blk w1 (w.heap.size+1+1) 28 #[.int .i64 bx, .int .i64 byy] by rw[hw1];exact Blk.new_ (by simp))
 rw[←hw1]
 obtain⟨pb,hpb⟩: ∃z,w.heap.size=z:=⟨_,rfl⟩
 rw[hpb]at P1 A1 B1⊢
 clear hw1 hpb
 have p0:=P1.out.at 0 rfl;have p1:=P1.out.at 1 rfl;have p2:=P1.out.at 2 rfl;have pz:=P1.out.lt
 have y0:=A1.out.at 0 rfl;have y1:=A1.out.at 1 rfl;have yz:=A1.out.lt
 go_wp2_with fail
 refine(HO1.out _).mono ?_
 rintro e w2 ⟨rfl,x2⟩
 have X2:=aA (X1.out.trans x2)
 have P2:=aA (P1.out.ext x2)
 have A2:=aA (A1.out.ext x2)
 have B2:=aA (B1.out.ext x2)
 clear x2 p0 p1 p2 pz y0 y1 yz P1 A1 B1 X1
 have p0:=P2.out.at 0 rfl;have p1:=P2.out.at 1 rfl;have p2:=P2.out.at 2 rfl;have pz:=P2.out.lt
 have v0:=B2.out.at 0 rfl;have v1:=B2.out.at 1 rfl;have vz:=B2.out.lt
 go_wp2_with fail
 refine(HO2.out _).mono ?_
 rintro e w3 ⟨rfl,x3⟩
 have X3:=aA (X2.out.trans x3)
 have A3:=aA (A2.out.ext x3)
 have B3:=aA (B2.out.ext x3)
 clear x3 p0 p1 p2 pz v0 v1 vz P2 A2 B2 X2 HO1 HO2
 by_cases he:i1=i2
 ·have f1:(i1==i2)=true:=by simpa using he
  obtain rfl:R=true:=HC.out.2 (.inl he)
  clear HC he
  go_wp2_with fail
  go_ret
  exact⟨rfl,X3.out⟩
 ·have f1:(i1==i2)=false:=by simpa using he
  have HE:=aA he
  clear he
  go_wp2_with fail
  go_loopw [13] (fun iv wr=> ∃k:Nat,k≤n∧iv= .int .i64 (k:Int)∧Ext w3 wr∧Hid (∀x∈G.take k,x≠((ax,ay),(bx,byy))∧x≠((bx,byy),(ax,ay)))) (fun iv _=>n-(intOf iv).toNat)
  case atStart=>exact⟨0,Nat.zero_le _,rfl,Ext.refl _,aA (fun x hx=>by simp at hx)⟩
  case round=>
   obtain⟨k,hk,rfl,hx,hno⟩:=hrel
   have hnb:=HNB.out
   by_cases hlt:k<n
   ·have hkn:k<G.length:=by rw[HN.out];exact hlt
    have e1:G[k]? =some G[k]:=List.getElem?_eq_getElem hkn
    obtain⟨y,hy⟩: ∃y,G[k]=y:=⟨_,rfl⟩
    have hmem:y∈G:=by rw[←hy];exact List.getElem_mem hkn
    rw[hy]at e1
    have HY:=aA hmem
    have HEQ:=aA e1
    obtain⟨b1,o1,rfl,z1,c1⟩:=aIe ((HGG.out.ext X3.out).ext hx) e1
    have d0:=c1 0 _ rfl
    have d1:=c1 1 _ rfl
    have d2:=c1 2 _ rfl
    have d3:=c1 3 _ rfl
    have jk:(k:Int)<(n:Int):=by omega
    obtain⟨⟨px,py⟩,qx,qy⟩:=y
    simp only[bV,Nat.add_zero,←Nat.add_assoc]at d0 d1 d2 d3
    have XR:=aA hx
    have AR:=aA (A3.out.ext hx)
    have BR:=aA (B3.out.ext hx)
    obtain⟨q1,hq1'⟩: ∃z,eL (px,py) (ax,ay)=z:=⟨_,rfl⟩
    obtain⟨q2,hq2'⟩: ∃z,eL (qx,qy) (bx,byy)=z:=⟨_,rfl⟩
    obtain⟨q3,hq3'⟩: ∃z,eL (px,py) (bx,byy)=z:=⟨_,rfl⟩
    obtain⟨q4,hq4'⟩: ∃z,eL (qx,qy) (ax,ay)=z:=⟨_,rfl⟩
    have hq1: ∀w,(Op.equalIn 10000 28 (.agg #[.int .i64 px, .int .i64 py]) (.agg #[.int .i64 ax, .int .i64 ay])).run Tryz.prog w= .ok q1 w:=fun w=>by rw[←hq1'];exact bJ (px,py) (ax,ay) w
    have hq2: ∀w,(Op.equalIn 10000 28 (.agg #[.int .i64 qx, .int .i64 qy]) (.agg #[.int .i64 bx, .int .i64 byy])).run Tryz.prog w= .ok q2 w:=fun w=>by rw[←hq2'];exact bJ (qx,qy) (bx,byy) w
    have hq3: ∀w,(Op.equalIn 10000 28 (.agg #[.int .i64 px, .int .i64 py]) (.agg #[.int .i64 bx, .int .i64 byy])).run Tryz.prog w= .ok q3 w:=fun w=>by rw[←hq3'];exact bJ (px,py) (bx,byy) w
    have hq4: ∀w,(Op.equalIn 10000 28 (.agg #[.int .i64 qx, .int .i64 qy]) (.agg #[.int .i64 ax, .int .i64 ay])).run Tryz.prog w= .ok q4 w:=fun w=>by rw[←hq4'];exact bJ (qx,qy) (ax,ay) w
    have HNO:=aA (fun(h1:(q1&&q2)=false) (h2:(q3&&q4)=false)=>aCl (a:=(ax,ay)) (b:=(bx,byy)) HEQ.out hno.out ⟨(fun h=>by
     injection h with u v
     rw[aX,decide_eq_true u]at hq1'
     rw[aX,decide_eq_true v]at hq2'
     rw[←hq1',←hq2']at h1
     cases h1),(fun h=>by
     injection h with u v
     rw[aX,decide_eq_true u]at hq3'
     rw[aX,decide_eq_true v]at hq4'
     rw[←hq3',←hq4']at h2
     cases h2)⟩)
    have HYES:=aA (fun(h:(q1&&q2)=true∨(q3&&q4)=true)=>(show R=true from HC.out.2 (.inr (by
     rcases h with h|h
     ·rw[Bool.and_eq_true]at h
      rw[←hq1',←hq2',aX,aX,decide_eq_true_eq,decide_eq_true_eq]at h
      have:=HY.out
      rw[h.1,h.2]at this
      exact .inl this
     ·rw[Bool.and_eq_true]at h
      rw[←hq3',←hq4',aX,aX,decide_eq_true_eq,decide_eq_true_eq]at h
      have:=HY.out
      rw[h.1,h.2]at this
      exact .inr this))))
    have y0:=AR.out.at 0 rfl;have y1:=AR.out.at 1 rfl;have yz:=AR.out.lt
    have v0:=BR.out.at 0 rfl;have v1:=BR.out.at 1 rfl;have vz:=BR.out.lt
    clear hkn e1 hmem hy c1 hx hno hq1' hq2' hq3' hq4' A3 B3
    cases q1<;>cases q2<;>cases q3<;>cases q4
    all_goals
     go_wp2_with fail
     go_quiet (fail)
     go_wp2_with fail
     first
      |(go_ret;exact⟨by(rw[HYES.out (by decide)];rfl),X3.out.trans (XR.out.trans z_x)⟩)
      |(go_roundw;(case rel=>exact⟨k+1,by omega,by go_num,XR.out.trans z_x,aA (HNO.out (by decide) (by decide))⟩);(case measure=>simp[intOf];omega))
   ·obtain rfl:R=false:=by
     cases R
     ·rfl
     ·rcases HC.out.1 rfl with h|h|h
      ·exact absurd h HE.out
      ·have hkk:k=G.length:=by rw[HN.out];omega
       exact absurd rfl (hno.out _ (by rw[hkk,List.take_length];exact h)).1
      ·have hkk:k=G.length:=by rw[HN.out];omega
       exact absurd rfl (hno.out _ (by rw[hkk,List.take_length];exact h)).2
    have XR:=aA hx
    clear hx hno
    go_wp2_with fail
    go_ret
    exact⟨rfl,X3.out.trans XR.out⟩
end Go.Proofs.YtaellcgglldjaaaGreat

namespace Go.Proofs.YtaellcgglldjaaaGreat
open Go.RowKit
def nR (k:Nat) (v:Nat):Int:=if v<k then aE else 0
theorem aCn {f g:Nat→Int} {n:Nat} (h: ∀v,v<n→f v=g v):dB f n=dB g n:=by
 unfold dB
 exact List.map_congr_left fun v hv=>h v (List.mem_range.1 hv)
theorem FarAt.congr {w:World} {base g c n:Nat} {f f':Nat→Int} (h:FarAt w base g c f n) (e: ∀v,v<n→f v=f' v):FarAt w base g c f' n:=by
 unfold FarAt
 rw[←aCn e]
 exact h
theorem aHh (n:Nat):List.replicate n (0:Int)=dB (nR 0) n:=by
 unfold dB nR
 simp[List.map_const']
end Go.Proofs.YtaellcgglldjaaaGreat

