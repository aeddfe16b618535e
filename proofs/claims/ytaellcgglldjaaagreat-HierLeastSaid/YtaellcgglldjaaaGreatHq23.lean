/- Part of a proof: CellsF HierT StarA StarB. -/
import Derived.Test.YtaellcgglldjaaaGreatHq14
import Derived.BigRegion
import Derived.Stop.RegionWithIn
import Derived.Shelf.Abstract
import Derived.Test.YtaellcgglldjaaaGreatHq21
import Derived.Test.YtaellcgglldjaaaGreatHq22
import Derived.Test.YtaellcgglldjaaaGreatHq19
import Derived.Test.YtaellcgglldjaaaGreatHq01
import Derived.RangeFuncBox
import Derived.OwnWalkIn
import Derived.TacticsInMore
set_option linter.all false
set_option linter.unusedVariables false
set_option linter.unusedSimpArgs false
namespace Go.Proofs.YtaellcgglldjaaaGreat
open Go.RowKit
set_option maxHeartbeats 1000000 in
theorem qJ {w:World} {sb:Nat} {m cap f:Nat} {caps:Array Value} {L:List aB} {p:aB→Bool} {base k0:Nat} (hL:L.length=m) (hm:m≤1000) (hv:Own cellE w base 28 (.slice (some ⟨sb,0,none⟩) m cap) L)
  (hp: ∀w',Ext w w'→ ∀q,q∈L→Calls Tryz.prog f (#[.agg #[.int .i64 q.1, .int .i64 q.2]]++caps) w' fun e w2=>e= .returned (.bool (p q))∧Ext w' w2)
  (eg: ∀args w,(callFunc f args).run Tryz.prog w= .ok (.enter f args) w)
  (hk:k0<m) (hyes: ∀q,L[k0]? =some q→p q=true) (hno: ∀j q,j<k0→L[j]? =some q→p q=false):
  Calls Tryz.prog 122 #[.slice (some ⟨sb,0,none⟩) m cap, .func (.func f) #[] caps] w fun e w'=>e= .returned (.int .i64 k0)∧Ext w w':=by
 have HV:=aA hv
 have HP:=aA hp
 have HY:=aA hyes
 have HNO:=aA hno
 have HL:=aA hL
 have zb:=(aK hv rfl).2
 clear hv hp hyes hno hL
 go_enter Tryz.func122,Tryz.ntmps122
 go_wp2
 go_loopw [8] (fun i wr=> ∃k:Nat,k≤k0∧i= .int .i64 k∧Ext w wr) (fun i _=>m-(intOf i).toNat)
 case atStart=>exact⟨0,Nat.zero_le _,rfl,Ext.refl _⟩
 case round=>
  obtain⟨k,hkk,rfl,hext⟩:=hrel
  have hz:=hext.size
  have hkm:k<m:=by omega
  obtain⟨q,hq⟩: ∃q,L[k]? =some q:=⟨_,List.getElem?_eq_getElem (by rw[HL.out];exact hkm)⟩
  obtain⟨d0,d1,_⟩:=dQ (HV.out.ext hext) hq
  have hki:(k:Int)<(m:Int):=by omega
  have HQ:=aA (fun w' (hx:Ext wr w')=>HP.out w' (hext.trans hx) q (List.mem_of_getElem? hq))
  have zr:sb<wr.heap.size:=by omega
  by_cases hlt:k<k0
  ·have hf:=HNO.out k q hlt hq
   rw[hf]at HQ
   clear hq hf
   go_wp2_with fail
   refine(HQ.out _ (Ext.refl _)).mono ?_
   rintro e w2 ⟨rfl,hb2⟩
   go_wp2
   go_roundw
   case rel=>exact⟨k+1,by omega,by go_num,hext.trans hb2⟩
   case measure=>simp[intOf];omega
  ·obtain rfl:k=k0:=by omega
   have hf:=HY.out q hq
   rw[hf]at HQ
   clear hq hf
   go_wp2_with fail
   refine(HQ.out _ (Ext.refl _)).mono ?_
   rintro e w2 ⟨rfl,hb2⟩
   go_wp2
   go_ret
   exact⟨rfl,hext.trans hb2⟩
def rS (l L:List aB) (m:Nat):Prop:=L.length=l.length∧ ∀q,q<l.length→L[q]? =if q<m∨l.length-m≤q then l[l.length-1-q]? else l[q]?
theorem aG5 (l:List aB):rS l l 0:=⟨rfl,fun q hq=>by rw[if_neg (by omega)]⟩
theorem aKi {l L:List aB} {m:Nat} (h:rS l L m) (hm:l.length≤2*m+1):L=l.reverse:=by
 apply List.ext_getElem?
 intro q
 by_cases hq:q<l.length
 ·rw[h.2 q hq,List.getElem?_reverse hq]
  split
  ·rfl
  ·have:q=l.length-1-q:=by omega
   rw[←this]
 ·rw[List.getElem?_eq_none (by rw[h.1];omega),List.getElem?_eq_none (by simp;omega)]
theorem aIg {l L:List aB} {m:Nat} (h:rS l L m) (hm:2*m+1<l.length) {p q:aB} (hp:L[m]? =some p) (hq:L[l.length-1-m]? =some q):rS l ((L.set m q).set (l.length-1-m) p) (m+1):=by
 have e1:=h.2 m (by omega)
 have e2:=h.2 (l.length-1-m) (by omega)
 rw[if_neg (by omega),hp]at e1
 rw[if_neg (by omega),hq]at e2
 refine⟨by simp[h.1],fun k hk=> ?_⟩
 rw[List.getElem?_set,List.getElem?_set,List.length_set,h.1]
 by_cases a:l.length-1-m=k
 ·subst a
  rw[if_pos rfl,if_pos (by omega),if_pos (by omega),show l.length-1-(l.length-1-m)=m by omega,e1]
 ·rw[if_neg a]
  by_cases b:m=k
  ·subst b
   rw[if_pos rfl,if_pos (by omega),if_pos (by omega),e2]
  ·rw[if_neg b,h.2 k hk]
   by_cases d:k<m∨l.length-m≤k
   ·rw[if_pos d,if_pos (by omega)]
   ·rw[if_neg d,if_neg (by omega)]
set_option maxRecDepth 100000 in
set_option maxHeartbeats 2000000 in
theorem qO {w:World} {g c base n:Nat} {l:List aB} (hl:l.length=n) (h1:1≤n) (hn:n≤100000) (hv:Own cellE w base 28 (.slice (some ⟨g,0,none⟩) n c) l):
  Calls Tryz.prog 71 #[.slice (some ⟨g,0,none⟩) n c] w fun e w'=>e= .returned (.tuple #[])∧Own cellE w' base 28 (.slice (some ⟨g,0,none⟩) n c) l.reverse∧Touch (fun k=>k=g) w w':=by
 have HV:=aA hv
 have HL:=aA hl
 clear hv hl
 go_enter Tryz.func71,Tryz.ntmps71
 go_wp2
 go_loopw [2,3] (fun i j wr=> ∃(m:Nat) (L:List aB),2*m≤n∧i= .int .i64 m∧j= .int .i64 ((n:Int)-1-(m:Int))∧rS l L m∧Own cellE wr base 28 (.slice (some ⟨g,0,none⟩) n c) L∧Touch (fun k=>k=g) w wr) (fun i _ _=>n-(intOf i).toNat)
 case atStart=>exact⟨0,l,by omega,rfl,by go_num,aG5 l,HV.out,Touch.refl _ _⟩
 case round=>
  obtain⟨m,L,hmn,rfl,rfl,hrev,hown,ht⟩:=hrel
  have R:=aA hrev
  have O:=aA hown
  have T:=aA ht
  have hLn:L.length=n:=by rw[hrev.1,HL.out]
  have HLn:=aA hLn
  by_cases hlt:2*m+1<n
  ·obtain⟨j,hj⟩: ∃j,j=n-1-m:=⟨_,rfl⟩
   have hji:(n:Int)-1-(m:Int)=(j:Int):=by omega
   obtain⟨⟨px,py⟩,hp⟩: ∃p,L[m]? =some p:=⟨_,List.getElem?_eq_getElem (by omega)⟩
   obtain⟨⟨qx,qy⟩,hq⟩: ∃q,L[j]? =some q:=⟨_,List.getElem?_eq_getElem (by omega)⟩
   obtain⟨a0,a1,zg⟩:=dQ hown hp
   obtain⟨b0,b1,_⟩:=dQ hown hq
   have h':wr.ownsRow base 28 2 (.slice (some ⟨g,0,none⟩) n c) L.length (L.flatMap cellE.cells):=hown
   rw[hLn]at h'
   have f0:=h'.frozenAt (m*2)
   have f1:=h'.frozenAt (m*2+1)
   have f2:=h'.frozenAt (j*2)
   have f3:=h'.frozenAt (j*2+1)
   have hst:=aA (aIg (p:=(px,py)) (q:=(qx,qy)) hrev (by rw[HL.out];exact hlt) hp (by rw[HL.out,←hj];exact hq))
   obtain⟨w1,hw1⟩: ∃w1,w1=fR (fR wr g (m*2) (cellE.cells (qx,qy))) g (j*2) (cellE.cells (px,py)):=⟨_,rfl⟩
   have o1:Own cellE w1 base 28 (.slice (some ⟨g,0,none⟩) n c) ((L.set m (qx,qy)).set j (px,py)):=by
    rw[hw1]
    exact(hown.turn (i:=m) (by omega) (qx,qy)).turn (i:=j) (by rw[List.length_set];omega) (px,py)
   have t1:Touch (fun k=>k=g) wr w1:=by
    rw[hw1]
    exact(eY g _ _ _).trans (eY g _ _ _)
   have O1:=aA o1
   have T1:=aA (ht.trans t1)
   have HW1:=aA hw1
   have HJ:=aA hj
   have hne:m≠j:=by omega
   have m1:(m:Int)<(n:Int):=by omega
   have m2:(j:Int)<(n:Int):=by omega
   have m3:(m:Int)<(j:Int):=by omega
   have hjb:m+1≤j:=by omega
   rw[hji]
   have HLT:=aA hlt
   clear hrev hown ht hLn hp hq h' hw1 o1 t1 hj hji hmn hlt
   simp only at a0 a1 b0 b1
   go_wp2
   go_region
   rw[show(((wr.setCell ⟨g,m*2,none⟩ (.int .i64 qx)).setCell ⟨g,m*2+1,none⟩ (.int .i64 qy)).setCell ⟨g,j*2,none⟩ (.int .i64 px)).setCell ⟨g,j*2+1,none⟩ (.int .i64 py)=w1 from HW1.out.symm]
   clear a0 a1 b0 b1 f0 f1 f2 f3
   go_wp2
   go_roundw
   case rel=>exact⟨m+1,(L.set m (qx,qy)).set j (px,py),by(have:=HLT.out;omega),by go_num,by(have:=HJ.out;congr 1;push_cast;omega),by rw[HL.out,←HJ.out]at hst;exact hst.out,O1.out.drew,T1.out.drew⟩
   case measure=>simp[intOf];omega
  ·have hd:decide ((m:Int)<(n:Int)-1-(m:Int))=false:=by simp;omega
   have he:=aKi hrev (by rw[HL.out];omega)
   subst he
   clear hrev hown ht hlt hLn HLn R
   go_wp2
   go_end0
   exact⟨rfl,O.out,T.out⟩
def aD (W:Int) (v:Nat):aB:=(vx W v,vy W v)
theorem Row16.touch {S:Nat→Prop} {w w':World} {a:Option Addr} {l:List Int} (h:Row16 w a l) (e:Touch S w w') (hs: ∀b off,a=some ⟨b,off,none⟩→ ¬S b):Row16 w' a l:=fun h0=>by
 obtain⟨b,off,ha,hb,hc⟩:=h h0
 exact⟨b,off,ha,Nat.lt_of_lt_of_le hb e.size,fun k hk=>(e.cell (p:=⟨b,off+k,none⟩) hb (hs b off ha)).trans (hc k hk)⟩
end Go.Proofs.YtaellcgglldjaaaGreat

namespace Go.Proofs.YtaellcgglldjaaaGreat
open Go.RowKit
theorem aW {W H:Int} {c:aB} (h:inB W H c.1 c.2=true):aD W (aC W c)=c:=by
 have b:=inB_true.1 h
 obtain⟨x,y⟩:=c
 simp only at b
 unfold aD
 rw[cQ (by omega) (by omega) (by omega),cR (by omega) (by omega) (by omega)]
theorem tR {W H:Int} {a c:aB} (ha:inB W H a.1 a.2=true) (hc:inB W H c.1 c.2=true) (h:aC W a=aC W c):a=c:=by
 rw[←aW ha,←aW hc,h]
theorem fJ {W H s:Int} {l:List Int} (g:Good W H s l) {v:Nat} (hv:v<l.length):inB W H (aD W v).1 (aD W v).2=true∧aC W (aD W v)=v:=by
 obtain⟨hm,hl⟩:=checkE_ok.1 g.ok
 have hb:=mayB_true.1 hm
 have hlt:(v:Int)<W*H:=by omega
 have:=aLf (H:=H) (W:=W) (by omega) hlt
 exact⟨inB_true.2 ⟨by omega,by omega,by omega,by omega,this.1,this.2.1,this.2.2.1,this.2.2.2⟩,dZ (by omega) v⟩
theorem tU {W H s id:Int} {l:List Int} (L:cT W H s id l):(aF L).n=l.length:=rfl
theorem mY {W H s:Int} {l:List Int} (g:Good W H s l) {a:aB} (ha:inB W H a.1 a.2=true): ∃L:cT W H s (ofN W s a.1 a.2) l,∀c,cI W H s l a c=cJ L a (aC W c):=by
 have L:=g.box (dE g.right ha)
 refine⟨L,fun c=> ?_⟩
 unfold cI
 rw[dif_pos L]
theorem aHe {W H s:Int} {l:List Int} (g:Good W H s l) (hl:l.length≤150) {a c:aB} (ha:inB W H a.1 a.2=true) (hc:inB W H c.1 c.2=true) (hne:c≠a) (hd:cI W H s l a c≠aE):0<cI W H s l a c∧cI W H s l a c≤10000000:=by
 obtain⟨L,hL⟩:=mY g ha
 rw[hL]at hd⊢
 have F:=eD L a
 have hlt:cJ L a (aC W c)<aE:=by have:=F.le (aC W c);omega
 have ho:=F.open_ hlt
 have hs:aC W c≠aC W a:=fun e=>hne (tR hc ha e)
 obtain⟨u,_,_,he⟩:=F.from_ _ ho hs hlt
 have hn:=F.nn u
 have hp:=(aF L).pos _ ho
 have hlow:=kY F _ hlt
 rw[tU L]at hlow
 exact⟨by omega,by omega⟩
def opH (W H:Int) (G:List (aB×aB)) (f t:aB) (n v:Nat):Bool:=decide (v<n)&&aD7 G f t (aD W v)
noncomputable def jL (W H s:Int) (l:List Int) (G:List (aB×aB)) (f t:aB) (v:Nat):List (Nat×Int):=(cO W H s l G f t (aD W v)).map fun q=>(aC W q.1,q.2)
theorem eF {W H s:Int} {l:List Int} (g:Good W H s l) {G:List (aB×aB)} {f t:aB} {v:Nat}:opH W H G f t l.length v=true↔ ∃c,c∈cE W H G f t∧aC W c=v:=by
 unfold opH
 have hb:=mayB_true.1 (checkE_ok.1 g.ok).1
 constructor
 ·intro h
  rw[Bool.and_eq_true,decide_eq_true_eq]at h
  obtain⟨h1,h2⟩:=fJ g h.1
  have:=inB_true.1 h1
  refine⟨aD W v,?_,h2⟩
  unfold cE
  rw[List.mem_filter,iC]
  exact⟨by omega,h.2⟩
 ·rintro⟨c,hc,rfl⟩
  unfold cE at hc
  rw[List.mem_filter,iC]at hc
  have hi:inB W H c.1 c.2=true:=inB_true.2 (by omega)
  rw[aW hi,hc.2,Bool.and_true,decide_eq_true_eq]
  exact pV (checkE_ok.1 g.ok).2 hi
theorem eX {W H s:Int} {l:List Int} (g:Good W H s l) {G:List (aB×aB)} {f t c:aB} (h:c∈cE W H G f t):inB W H c.1 c.2=true:=by
 have hb:=mayB_true.1 (checkE_ok.1 g.ok).1
 have:=nodesL_mem.1 h
 exact inB_true.2 (by omega)
theorem gX {W H s:Int} {l:List Int} (g:Good W H s l) {f t c:aB} (h:gIn (aI W H s l) c=true):c∈cE W H (aI W H s l) f t:=by
 have hi:=aJy g.right (gIn_flat.1 h)
 have:=inB_true.1 hi
 exact nodesL_mem.2 ⟨by omega, .inr (.inr h)⟩
theorem leg_mem {W H s:Int} {l:List Int} {G:List (aB×aB)} {f t a:aB} {q:aB×Int}:q∈cO W H s l G f t a↔
  (q.1∈cE W H G f t∧ofN W s q.1.1 q.1.2=ofN W s a.1 a.2∧q.1≠a∧cI W H s l a q.1≠aE∧q.2=cI W H s l a q.1)∨(∃g∈G,q∈mN W l a g):=by
 unfold cO kB dI
 rw[List.mem_append,List.mem_map,List.mem_flatMap]
 refine or_congr ⟨?_,?_⟩ Iff.rfl
 ·rintro⟨c,hc,rfl⟩
  rw[List.mem_filter]at hc
  simp only[Bool.and_eq_true,decide_eq_true_eq,Bool.not_eq_true',decide_eq_false_iff_not]at hc
  exact⟨hc.1,hc.2.1,hc.2.2.1,hc.2.2.2,rfl⟩
 ·rintro⟨h1,h2,h3,h4,h5⟩
  refine⟨q.1,?_,by rw[←h5]⟩
  rw[List.mem_filter]
  simp only[Bool.and_eq_true,decide_eq_true_eq,Bool.not_eq_true',decide_eq_false_iff_not]
  exact⟨h1,h2,h3,h4⟩
theorem rF {W:Int} {l:List Int} {a:aB} {g:aB×aB} {q:aB×Int} (h:q∈mN W l a g):(g.1=a∧q=(g.2,aH l W g.2))∨(g.2=a∧q=(g.1,aH l W g.1)):=by
 unfold mN at h
 split at h
 ·next e=>simp only[List.mem_singleton]at h;exact .inl ⟨e,h⟩
 ·split at h
  ·next e=>simp only[List.mem_singleton]at h;exact .inr ⟨e,h⟩
  ·cases h
theorem kA {W H s:Int} {l:List Int} (g:Good W H s l) (hl:l.length≤150) {f t a:aB} (ha:inB W H a.1 a.2=true) {q:aB×Int} (h:q∈cO W H s l (aI W H s l) f t a):
  q.1∈cE W H (aI W H s l) f t∧q.1≠a∧0<q.2∧q.2≤10000000∧((ofN W s q.1.1 q.1.2=ofN W s a.1 a.2∧q.2=cI W H s l a q.1∧cI W H s l a q.1≠aE)∨(ofN W s q.1.1 q.1.2≠ofN W s a.1 a.2∧q.2=aH l W q.1)):=by
 rcases leg_mem.1 h with⟨h1,h2,h3,h4,h5⟩|⟨e,he,hq⟩
 ·have hd:=aHe g hl ha (eX g h1) h3 h4
  exact⟨h1,h3,by omega,by omega, .inl ⟨h2,h5,h4⟩⟩
 ·obtain⟨x,y,x0,xy,yb,_,i1,i2,o1,o2,hop,_⟩:=eU g.right he
  unfold kW at hop
  rw[Bool.and_eq_true,decide_eq_true_eq,decide_eq_true_eq]at hop
  have b1:=bI g.u16 W e.1
  have b2:=bI g.u16 W e.2
  rcases rF hq with⟨rfl,rfl⟩|⟨rfl,rfl⟩
  ·refine⟨gX g (gIn_iff.2 ⟨e,he, .inr rfl⟩),fun k=> ?_,by simp only;omega,by simp only;omega, .inr ⟨by simp only;omega,rfl⟩⟩
   simp only at k
   rw[k]at o2
   omega
  ·refine⟨gX g (gIn_iff.2 ⟨e,he, .inl rfl⟩),fun k=> ?_,by simp only;omega,by simp only;omega, .inr ⟨by simp only;omega,rfl⟩⟩
   simp only at k
   rw[k]at o1
   omega
noncomputable def hGr {W H s:Int} {l:List Int} (g:Good W H s l) (hl:l.length≤150) (f t:aB):LGr where
 n:=l.length
 op:=opH W H (aI W H s l) f t l.length
 legs:=jL W H s l (aI W H s l) f t
 lt v h:=by
  unfold opH at h
  rw[Bool.and_eq_true,decide_eq_true_eq]at h
  exact h.1
 leg v h q hq:=by
  obtain⟨c,hc,rfl⟩:=(eF g).1 h
  have hi:=eX g hc
  unfold jL at hq
  rw[aW hi]at hq
  obtain⟨p,hp,rfl⟩:=List.mem_map.1 hq
  obtain⟨h1,h2,h3,h4,_⟩:=kA g hl hi hp
  exact⟨(eF g).2 ⟨p.1,h1,rfl⟩,h3,h4⟩
open Classical in
noncomputable def bO (W H s:Int) (l:List Int) (u v:aB):List aB:=
 if ofN W s v.1 v.2=ofN W s u.1 u.2 then(if h: ∃(L:cT W H s (ofN W s u.1 u.2) l) (p:List Nat),BackP (aF L) (cJ L u) (aC W v) p then((Classical.choose (Classical.choose_spec h)).reverse.map (aD W)).drop 1 else[]) else[v]
theorem kJ {W H s:Int} {l:List Int} {u v:aB} (h:ofN W s v.1 v.2≠ofN W s u.1 u.2):bO W H s l u v=[v]:=by
 unfold bO;rw[if_neg h]
theorem uH {W H s:Int} {l:List Int} {u v:aB} (h:ofN W s v.1 v.2=ofN W s u.1 u.2) (L:cT W H s (ofN W s u.1 u.2) l) {p:List Nat} (hp:BackP (aF L) (cJ L u) (aC W v) p):bO W H s l u v=(p.reverse.map (aD W)).drop 1:=by
 unfold bO
 have hx: ∃(L:cT W H s (ofN W s u.1 u.2) l) (p:List Nat),BackP (aF L) (cJ L u) (aC W v) p:=⟨L,p,hp⟩
 rw[if_pos h,dif_pos hx,(Classical.choose_spec (Classical.choose_spec hx)).one hp]
noncomputable def iL (W H s:Int) (l:List Int) (f:aB) (ch:List Nat):List aB:=f::eN (fun u v=>bO W H s l (aD W u) (aD W v)) [] ch
def HSrch (W H s:Int) (l:List Int) (f t:aB) (b:Int) (p:List aB) (c k e:Int):Prop:=
 (¬(inB W H f.1 f.2=true∧inB W H t.1 t.2=true)∧p=[]∧c=0∧k=0∧e=10)∨
 ((inB W H f.1 f.2=true∧inB W H t.1 t.2=true)∧b<0∧p=[]∧c=0∧k=0∧e=1)∨
 ((inB W H f.1 f.2=true∧inB W H t.1 t.2=true)∧0≤b∧(aH l W f=0∨aH l W t=0)∧p=[]∧c=0∧k=0∧e=22)∨
 ((inB W H f.1 f.2=true∧inB W H t.1 t.2=true)∧0≤b∧ ¬(aH l W f=0∨aH l W t=0)∧ ∃(g:Good W H s l) (hl:l.length≤150),LRun (hGr g hl f t) W (aC W t) b (iL W H s l f) (aV (aC W f)) p c k e)
theorem HSrch.one {W H s:Int} {l:List Int} {f t:aB} {b:Int} {p p':List aB} {c c' k k' e e':Int} (h:HSrch W H s l f t b p c k e) (h':HSrch W H s l f t b p' c' k' e'):p=p'∧c=c'∧k=k'∧e=e':=by
 rcases h with⟨h1,rfl,rfl,rfl,rfl⟩|⟨h1,h2,rfl,rfl,rfl,rfl⟩|⟨h1,h2,h3,rfl,rfl,rfl,rfl⟩|⟨h1,h2,h3,g,hl,h4⟩<;>
  rcases h' with⟨k1,rfl,rfl,rfl,rfl⟩|⟨k1,k2,rfl,rfl,rfl,rfl⟩|⟨k1,k2,k3,rfl,rfl,rfl,rfl⟩|⟨k1,k2,k3,g',hl',k4⟩<;>
  first
   |exact⟨rfl,rfl,rfl,rfl⟩
   |exact absurd k1 h1
   |exact absurd h1 k1
   |(exfalso;omega)
   |exact absurd h3 k3
   |exact absurd k3 h3
   |exact h4.one (by have:=mayB_true.1 (checkE_ok.1 g.ok).1;omega) k4
end Go.Proofs.YtaellcgglldjaaaGreat

namespace Go.Proofs.YtaellcgglldjaaaGreat
open Go.RowKit
theorem aHo (k:Nat) (hk:k<4) (w:World):Calls Tryz.prog 181 #[.int .i64 (k:Int)] w fun e w'=>e= .returned (.agg #[.int .i64 (aQ k), .int .i64 (aR k)])∧Ext w w':=by
 obtain rfl|rfl|rfl|rfl:k=0∨k=1∨k=2∨k=3:=by omega
 ·go_enter Tryz.func181,Tryz.ntmps181
  go_wp2
  exact bodyPost_ret (v:= .agg #[.int .i64 0, .int .i64 (-1)]) (by simp[results,Tryz.results181,go_sem, *]) rfl ⟨rfl,z_x⟩
 ·go_enter Tryz.func181,Tryz.ntmps181
  go_wp2
  exact bodyPost_ret (v:= .agg #[.int .i64 1, .int .i64 0]) (by simp[results,Tryz.results181,go_sem, *]) rfl ⟨rfl,z_x⟩
 ·go_enter Tryz.func181,Tryz.ntmps181
  go_wp2
  exact bodyPost_ret (v:= .agg #[.int .i64 0, .int .i64 1]) (by simp[results,Tryz.results181,go_sem, *]) rfl ⟨rfl,z_x⟩
 ·go_enter Tryz.func181,Tryz.ntmps181
  go_wp2
  exact bodyPost_ret (v:= .agg #[.int .i64 (-1), .int .i64 0]) (by simp[results,Tryz.results181,go_sem, *]) rfl ⟨rfl,z_x⟩
theorem uR (k:Nat) (hk:k<4) (x y:Int) (hx: -1000000≤x∧x≤1000000) (hy: -1000000≤y∧y≤1000000) (w:World):Calls Tryz.prog 157 #[.agg #[.int .i64 x, .int .i64 y], .int .i64 (k:Int)] w fun e w'=>e= .returned (.agg #[.int .i64 (x+aQ k), .int .i64 (y+aR k)])∧Ext w w':=by
 have H1:=aA (fun w'=>aHo k hk w')
 have hb:=rZ k
 generalize aQ k=dx at *
 generalize aR k=dy at *
 clear hk
 go_enter Tryz.func157,Tryz.ntmps157
 go_wp2_with (go_at_call 181;refine(H1.out _).mono ?_;rintro e w1 ⟨rfl,hb1⟩;obtain⟨hc1,hf1⟩:=hb1.cells;have hz1:=hb1.size;(repeat(first|rw[World.size_alloc]at hz1|rw[World.size_drew]at hz1));have z1_0:w.heap.size<w1.heap.size:=(by omega);have z1_1:w.heap.size+1<w1.heap.size:=(by omega))
 exact bodyPost_ret (v:= .agg #[.int .i64 (x+dx), .int .i64 (y+dy)]) (by simp[results,Tryz.results157,go_sem, *]) rfl ⟨rfl,z_x⟩
theorem qH (x y:Int) (w:World):Calls Tryz.prog 112 #[.agg #[.int .i64 x, .int .i64 y]] w fun e w'=>e= .returned (.func (.func 156) #[] #[.pointer (some ⟨w.heap.size,0,none⟩)])∧w'=w.alloc (.cells #[.int .i64 x, .int .i64 y] 28):=by
 go_enter Tryz.func112,Tryz.ntmps112
 go_wp2
 go_ret
 exact⟨rfl,rfl⟩
def cK (x y:Int):List (Int×aB):=(List.range 4).map fun k:Nat=>((k:Int),(x+aQ k,y+aR k))
theorem jY (x y:Int):(cK x y).length=4:=by simp[cK]
theorem xT (x y:Int) {k:Nat} (hk:k<4):(cK x y)[k]? =some ((k:Int),(x+aQ k,y+aR k)):=by
 unfold cK
 rw[List.getElem?_map,List.getElem?_range hk]
 rfl
theorem kR (x y:Int) {k:Nat} (hk:k<4):(cK x y).take (k+1)=(cK x y).take k++[((k:Int),(x+aQ k,y+aR k))]:=by
 have h:=xT x y hk
 have hl:k<(cK x y).length:=by rw[jY];exact hk
 rw[List.take_add_one,h]
 rfl
def dcV (q:Int×aB):Array Value:= #[.int .i64 q.1, .agg #[.int .i64 q.2.1, .int .i64 q.2.2]]
theorem vU {w:World} {x y:Int} (hx: -1000000≤x∧x≤1000000) (hy: -1000000≤y∧y≤1000000) {bc:Nat} {R:Nat→Prop} (B:Blk w bc 28 #[.int .i64 x, .int .i64 y]) (Rb:R bc) (hR: ∀k,R k→k<w.heap.size):
  lR Tryz.prog 156 #[.pointer (some ⟨bc,0,none⟩)] dcV (cK x y) R w:=by
 intro lp J W0 hx0 hA hE hS hY hJ0
 have HE:=aA hE
 have HY:=aA hY
 have HJ0:=aA hJ0
 have B0:=aA (B.ext hx0)
 have zbc:=B0.out.lt
 clear hA hE hS hY hJ0 B hR hx0
 show Calls Tryz.prog 156 #[.func (.yield lp) #[] #[], .pointer (some ⟨bc,0,none⟩)] W0 _
 go_enter Tryz.func156,Tryz.ntmps156
 go_wp2
 go_loopw [3] (fun s3 wr=> ∃(k:Nat) (T:Nat→Prop),k≤4∧s3= .int .i64 (k:Int)∧J T ((cK x y).take k) wr∧Touch (fun j=> ¬R j) W0 wr) (fun s3 _=>4-(intOf s3).toNat)
 case atStart=>exact⟨0,fun _=>False,by omega,rfl,HJ0.out,Touch.refl _ _⟩
 case round=>
  obtain⟨k,T,hk,rfl,hJ,ht⟩:=hrel
  have J1:=aA hJ
  have T1:=aA ht
  have B1:=aA (B0.out.touch ht (fun h=>h Rb))
  have q0:=B1.out.at 0 rfl;have q1:=B1.out.at 1 rfl;have qz:=B1.out.lt
  clear hJ ht
  by_cases hlt:k<4
  ·have HN:=aA (fun w'=>uR k hlt x y hx hy w')
   have hd:decide ((k:Int)≤3)=true:=by simp;omega
   have hpre:(cK x y).take k++[((k:Int),(x+aQ k,y+aR k))]<+:cK x y:=by rw[←kR x y hlt];exact List.take_prefix _ _
   have HPRE:=aA hpre
   clear hpre
   refine(wpIn_wide (n:=4)).1 ?_
   gi_wp2_with (first
    |(refine⟨trivial,?_⟩;gi_at_call 157;refine(callsIn_wide.2 (HN.out _)).mono ?_;rintro e w2 ⟨rfl,hb2⟩;obtain⟨fn,tmps,assign,body,hyy,hRR⟩:=HY.out T _ _ w2 (HE.out _ _ _ _ J1.out hb2) HPRE.out;have HRR:=aA hRR;have HB2:=aA hb2;clear hRR hb2;unfold dcV at hyy)
    |(refine HRR.out.mono ?_;rintro e w3 ⟨rfl,hJ3,ht3⟩;have J3:=aA hJ3;have T3:=aA (T1.out.trans ((Touch.of_ext HB2.out).trans (ht3.mono (fun j _ h=>h.2))));clear hJ3 ht3 hyy HRR))
   go_roundw
   case rel=>exact⟨k+1,T,by omega,by go_num,by rw[kR x y hlt];exact J3.out,T3.out⟩
   case measure=>simp[intOf];omega
  ·obtain rfl:k=4:=by omega
   have J4:Hid (J T (cK x y) wr):=aA (by
    have h:=J1.out
    rw[List.take_of_length_le (by rw[jY];exact Nat.le_refl _)]at h
    exact h)
   clear J1
   go_wp2_with fail
   go_end0
   exact⟨⟨_,rfl⟩,T,J4.out⟩
end Go.Proofs.YtaellcgglldjaaaGreat

namespace Go.Proofs.YtaellcgglldjaaaGreat
open Go.RowKit
attribute [local go_sem] Oper.semAt_some
def cN (W H:Int) (l:List (Int×aB)):List aB:=(l.filter fun q=>inB W H q.2.1 q.2.2).map Prod.snd
theorem oZ (W H:Int) (l:List (Int×aB)) (q:Int×aB):cN W H (l++[q])=cN W H l++if inB W H q.2.1 q.2.2=true then[q.2] else[]:=by
 unfold cN
 rw[List.filter_append,List.map_append]
 congr 1
 rw[List.filter_cons]
 split<;>rfl
theorem qK (W H:Int) (l:List (Int×aB)):(cN W H l).length≤l.length:=by
 unfold cN
 rw[List.length_map]
 exact List.length_filter_le _ _
set_option maxRecDepth 100000 in
set_option maxHeartbeats 1000000 in
theorem aCq {w:World} (W H x y:Int) (hin:inB W H x y=true):
  Calls Tryz.prog 107 #[.agg #[.int .i64 W, .int .i64 H], .agg #[.int .i64 x, .int .i64 y]] w fun e w'=>
   ∃v,e= .returned (.tuple #[v, .int .i64 0])∧Ext w w'∧Own cellE w' w.heap.size 28 v (cN W H (cK x y)):=by
 have hb:=inB_true.1 hin
 have HI:=aA (fun w'=>fG W H x y w')
 rw[hin]at HI
 have HI2:=aA (fun(x' y':Int) w'=>fG W H x' y' w')
 refine callsIn_wide.1 (callsIn_of_wp_marks (n:=4) Tryz.func107 rfl trivial ((wpIn_wide (n:=4)).2 ?_))
 simp only[Tryz.ntmps107,List.size_toArray,List.length_cons,List.length_nil,Nat.reduceAdd,Nat.reduceSub,Array.replicate_succ,Array.replicate_zero,List.push_toArray,List.append_toArray,List.nil_append,List.cons_append]
 generalize hQ:bodyPostM _ _ _ _ _=Q'
 have HQ:=aA hQ
 clear hQ hin
 go_wp2_with (go_at_call 55;refine(HI.out _).mono ?_;rintro e w1 ⟨rfl,hb1⟩;obtain⟨hc1,hf1⟩:=hb1.cells;have hz1:=hb1.size;(repeat(first|rw[World.size_alloc]at hz1|rw[World.size_drew]at hz1));have z1_0:w.heap.size<w1.heap.size:=(by omega);have z1_1:w.heap.size+1<w1.heap.size:=(by omega))
 refine(qH x y _).mono ?_
 rintro e w4 ⟨rfl,hw4⟩
 have h14:Ext w1 w4:=by rw[hw4];exact((Ext.refl _).alloc _).alloc _
 have z4:w4.heap.size=w1.heap.size+2:=by rw[hw4];simp
 have B0:Hid (Blk w4 (w.heap.size) 23 #[.int .i64 W, .int .i64 H]):=aA (by refine Blk.ext ?_ (hb1.trans h14);(repeat' (first|exact Blk.new_ (by simp)|refine Blk.drew ?_|refine Blk.over ?_)))
 have OB:Hid (Blk w4 w1.heap.size 37 #[.slice none 0 0]):=aA (by rw[hw4];exact(Blk.new_ rfl).over)
 have BC:Hid (Blk w4 (w1.heap.size+1) 28 #[.int .i64 x, .int .i64 y]):=aA (by rw[hw4];exact Blk.new_ (by simp))
 have hw1z:w.heap.size+2≤w1.heap.size:=by have:=z1_1;omega
 have HX4:=aA (show Ext w w4 from Ext.trans z_x h14)
 clear hw4 h14 hb1 hc1 hf1 hz1 z1_0 z1_1 HI
 go_wp2_with fail
 have hseq:=vU (w:=w4) (x:=x) (y:=y) (R:=fun k=>k=w1.heap.size+1∨k=w.heap.size) (by omega) (by omega) BC.out (.inl rfl) (fun k hk=>by omega)
 have eg: ∀args w,(callFunc 156 args).run Tryz.prog w= .ok (.enter 156 args) w:=enters_of Tryz.func156 (by kernel_rfl) rfl
 refine(wpIn_wide (n:=4)).1 ?_
 refine wC (g:= .tmp 14) (p1:=15) (p2:=16) (bs:=8) (u:=fun q:Int×aB=> .int .i64 q.1) (v:=fun q:Int×aB=> .agg #[.int .i64 q.2.1, .int .i64 q.2.2]) (cs:=fun q:Int×aB=> #[.int .i64 q.2.1, .int .i64 q.2.2]) (t:=28) (gf:=156) rfl eg hseq (fun _=>rfl)
  (fun T pre W1=>(∀k,T k→w4.heap.size≤k∧k<W1.heap.size)∧Ext w W1∧w4.heap.size≤W1.heap.size∧ ∃v,W1.heap[w1.heap.size]? =some (.cells #[v] 37 (0,0))∧Own cellE W1 (w4.heap.size+2) 28 v (cN W H pre)∧(∀k,v.ownBlock=some k→ ¬T k)∧Blk W1 w.heap.size 23 #[.int .i64 W, .int .i64 H])
  (fun k hk=>by omega) ?hO ?hA ?hE ?hS ⟨fun _ h=>h.elim,HX4.out,Nat.le_refl _,_,OB.out,Own.nil _ _ _ _,fun _ _ h=>h,B0.out⟩ ?assign ?body ?done
 case hO=>
  rintro T pre W1 W2 ⟨i1,i2,i3,v,i4,i5,i6,i7⟩ tt
  exact⟨fun k hk=>⟨(i1 k hk).1,Nat.lt_of_lt_of_le (i1 k hk).2 tt.size⟩,((Touch.of_ext (S:=fun _=>False) i2).after tt (fun k hk h=>by omega)).ext,Nat.le_trans i3 tt.size,v,(tt.block _ (by omega) (fun h=>by omega)).trans i4,Own.touch i5 tt (fun k hk h=>by have:=aK i5 hk;omega),i6,i7.touch tt (fun h=>by omega)⟩
 case hA=>
  rintro T pre W1 o ⟨i1,i2,i3,v,i4,i5,i6,i7⟩
  exact⟨fun k hk=>hk.elim (fun h=>⟨(i1 k h).1,by have:=(i1 k h).2;simp;omega⟩) (fun e=>⟨by omega,by simp;omega⟩),i2.alloc _,by simp;omega,v,(((Ext.refl W1).alloc o).block (by omega)).trans i4,i5.alloc _,fun k hk h=>h.elim (i6 k hk) (fun e=>by have:=aK i5 hk;omega),i7.over⟩
 case hE=>
  rintro T pre W1 W2 ⟨i1,i2,i3,v,i4,i5,i6,i7⟩ e
  exact⟨fun k hk=>⟨(i1 k hk).1,Nat.lt_of_lt_of_le (i1 k hk).2 e.size⟩,i2.trans e,Nat.le_trans i3 e.size,v,(e.block (by omega)).trans i4,i5.ext e,i6,i7.ext e⟩
 case hS=>
  rintro T pre W1 q u ⟨i1,i2,i3,v,i4,i5,i6,i7⟩ hq
  have tt:Touch (fun k=>k=q.block) W1 (W1.setCell q u):=(Touch.refl (fun k=>k=q.block) W1).setCell (.inl rfl) u
  have hqb:=(i1 _ hq).1
  exact⟨fun k hk=>⟨(i1 k hk).1,Nat.lt_of_lt_of_le (i1 k hk).2 tt.size⟩,i2.setCell (by omega) _,Nat.le_trans i3 tt.size,v,(tt.block _ (by omega) (fun h=>by omega)).trans i4,Own.touch i5 tt (fun k hk h=>i6 k hk (by rw[h];exact hq)),i6,i7.touch tt (fun h=>by omega)⟩
 case assign=>
  intro q W1 K hK
  simp only[List.setIfInBounds_toArray,List.set_cons_zero,List.set_cons_succ]at hK⊢
  gi_wp2
  exact hK W1.heap.size _ z_x (gP _ _) (Nat.le_refl _)
 case body=>
  rintro T pre q Bx W1 ⟨i1,i2,i3,v,i4,i5,i6,i7⟩ hb hz hz2 hpre
  simp only[List.setIfInBounds_toArray,List.set_cons_zero,List.set_cons_succ]
  have BB:Hid (Blk W1 Bx 28 #[.int .i64 q.2.1, .int .i64 q.2.2]):=aA hb
  have BS:=aA i7
  have HI3:=aA (fun w'=>HI2.out q.2.1 q.2.2 w')
  obtain⟨d,qx,qy⟩:=q
  simp only at BB HI3⊢
  have hsn:=oZ W H pre (d,(qx,qy))
  simp only at hsn
  have hlen:(cN W H pre).length+1≤5:=by
   have h1:=qK W H pre
   obtain⟨rr,hrr⟩:=hpre
   have:=congrArg List.length hrr
   rw[jY]at this
   simp at this
   omega
  have HSN:=aA hsn
  have I1:=aA i1
  have I2:=aA i2
  have I5:=aA i5
  have I6:=aA i6
  have I4:=aA i4
  have ZZ:=aA (And.intro z4 hz)
  have hz4:w1.heap.size+2≤w4.heap.size:=by omega
  have zBx:=BB.out.lt
  have q0:=BB.out.at 0 rfl;have q1:=BB.out.at 1 rfl;have qz:=BB.out.lt
  have p0:=BS.out.at 0 rfl;have p1:=BS.out.at 1 rfl;have pz:=BS.out.lt
  clear hb i4 i5 i6 i2 i7 hsn hpre z4 i1
  by_cases hq:inB W H qx qy=true
  ·have HQ2:=aA hq
   rw[hq]at HI3
   clear hq
   have hz2':=hz2
   gi_wp2_with (first
    |(refine⟨trivial,?_⟩;gi_at_call 55;refine(callsIn_wide.2 (HI3.out _)).mono ?_;rintro e w5 ⟨rfl,hb5⟩;have hz5:=hb5.size;have q0:=(hb5.cell (p:=⟨Bx,0,none⟩) zBx).trans q0;have q1:=(hb5.cell (p:=⟨Bx,1,none⟩) zBx).trans q1;have J4:Hid (Blk w5 w1.heap.size 37 #[v]):=aA (Blk.ext I4.out hb5);have o0:=J4.out.at 0 rfl;have J5:=aA (I5.out.ext hb5);have HB5:=aA hb5;have hbase:w4.heap.size+2≤w5.heap.size:=(by omega);clear hb5)
    |(gi_at_builtin;refine mH cellE T_cells rfl _ _ rfl (w4.heap.size+2) _ _ (cN W H pre) rfl J5.out (qx,qy) _ _ rfl _ rfl rfl (by omega) (by omega) hbase ?_;intro g' cap' w10 hown' ht10 hloc;have hob:w10.heap[w1.heap.size]? =some (.cells #[v] 37 (0,0)):=(ht10.block _ (by omega) (fun e=>by have:=aK J5.out e;omega)).trans J4.out;have hoc:w10.cell? ⟨w1.heap.size,0,none⟩=some v:=(by simp[World.cell?,hob]);have hof:w10.frozen? ⟨w1.heap.size,0,none⟩=false:=(by simp[World.frozen?,hob]);have HOB:=aA hob;have HO':=aA hown';have HT':=aA ht10;have HLO:=aA hloc;clear hown' ht10 hloc hob))
   have ht10:=HT'.out
   have hzg:=ht10.size
   have hb5:=HB5.out
   have ho':w4.heap.size+2≤g'∧g'<w10.heap.size:=aK HO'.out rfl
   have tt10:Touch (fun k=>(v.ownBlock=some k)) W1 w10:=(Touch.of_ext hb5).trans (ht10.mono (fun k _ h=>h))
   have tt:Touch (fun k=> ¬T k∧ ¬(k=w1.heap.size+1∨k=w.heap.size)∧k≠w4.heap.size∧k≠w4.heap.size+1) W1 (w10.setCell ⟨w1.heap.size,0,none⟩ (.slice (some ⟨g',0,none⟩) ((cN W H pre).length+1) cap')):=by
    refine(tt10.mono (fun k _ hk=>⟨I6.out k hk,fun e=> ?_,fun e=> ?_,fun e=> ?_⟩)).setCell (p:=⟨w1.heap.size,0,none⟩) (.inl ⟨fun hT=> ?_,fun e=> ?_,?_,?_⟩) _
    ·have:=(aK I5.out hk).1;omega
    ·have:=(aK I5.out hk).1;omega
    ·have:=(aK I5.out hk).1;omega
    ·have:=(I1.out _ hT).1;have e2:w4.heap.size≤w1.heap.size:=this;omega
    ·have e2:w1.heap.size=w1.heap.size+1∨w1.heap.size=w.heap.size:=e;omega
    ·show w1.heap.size≠_;omega
    ·show w1.heap.size≠_;omega
   have tts:=tt10.size
   have ts:Touch (fun k=>k=w1.heap.size) w10 (w10.setCell ⟨w1.heap.size,0,none⟩ (.slice (some ⟨g',0,none⟩) ((cN W H pre).length+1) cap')):=(Touch.refl (fun k=>k=w1.heap.size) w10).setCell (p:=⟨w1.heap.size,0,none⟩) (.inl rfl) _
   refine⟨⟨fun k hk=>⟨(I1.out k hk).1,Nat.lt_of_lt_of_le (I1.out k hk).2 tts⟩,?_,Nat.le_trans i3 tts, .slice (some ⟨g',0,none⟩) ((cN W H pre).length+1) cap',?_,?_,fun k hk hT=> ?_,?_⟩,?_⟩
   ·refine(((Touch.of_ext (S:=fun _=>False) I2.out).after tt10 (fun k hk h=> ?_)).after ts (fun k hk h=> ?_)).ext
    ·have:=(aK I5.out h).1;omega
    ·have e2:k=w1.heap.size:=h;omega
   ·have hbk:Blk w10 w1.heap.size 37 #[v]:=HOB.out
    have:=hbk.set_ 0 (.slice (some ⟨g',0,none⟩) ((cN W H pre).length+1) cap')
    unfold Blk at this
    simpa using this
   ·rw[HSN.out,if_pos HQ2.out]
    exact Own.touch HO'.out ts (fun k hk e=>by simp only[Value.ownBlock,Option.some.injEq]at hk;subst hk;omega)
   ·simp only[Value.ownBlock,Option.some.injEq]at hk
    subst hk
    rcases HLO.out with h|h
    ·exact I6.out _ h hT
    ·have h1:=(I1.out _ hT).2
     have h2:=hb5.size
     omega
   ·exact(BS.out.touch tt10 (fun h=>by have:=(aK I5.out h).1;omega)).touch ts (fun h=>by have e2:w.heap.size=w1.heap.size:=h;omega)
   ·refine tt.mono fun k _ h=> ?_
    simpa using h
  ·have hq2:inB W H qx qy=false:=by simpa using hq
   have HQ2:=aA hq2
   rw[hq2]at HI3
   clear hq hq2
   gi_wp2_with (refine⟨trivial,?_⟩;gi_at_call 55;refine(callsIn_wide.2 (HI3.out _)).mono ?_;rintro e w5 ⟨rfl,hb5⟩;have HB5:=aA hb5;clear hb5)
   have hb5:=HB5.out
   refine⟨⟨fun k hk=>⟨(I1.out k hk).1,Nat.lt_of_lt_of_le (I1.out k hk).2 hb5.size⟩,I2.out.trans hb5,Nat.le_trans i3 hb5.size,v,(hb5.block (by omega)).trans I4.out,?_,I6.out,BS.out.ext hb5⟩,Touch.of_ext hb5⟩
   rw[HSN.out,if_neg (by rw[HQ2.out];simp),List.append_nil]
   exact I5.out.ext hb5
 case done=>
  rintro T W1 ⟨i1,i2,i3,v,i4,i5,i6,i7⟩ hD
  dsimp only
  have o0:W1.cell? ⟨w1.heap.size,0,none⟩=some v:=by simp[World.cell?,i4]
  have I5:=aA i5
  have ID:=aA hD
  have I2:=aA i2
  have hzz:=i3
  clear i5 hD i2 i4 i1 i6 i7
  go_wp2_with fail
  rw[←HQ.out]
  refine⟨by simp, .inl ⟨_,_,rfl,run_takeDeferred ID.out,?_⟩⟩
  refine⟨.tuple #[v, .int .i64 0],by simp[results,Tryz.results107,go_sem],?_⟩
  have t6:Touch (fun j=>j=w4.heap.size) W1 (W1.putObj w4.heap.size (.deferred none)):=bC _ _
  refine⟨v,rfl,((Touch.of_ext (S:=fun _=>False) I2.out).after t6 (fun k hk e=>by omega)).ext,?_⟩
  exact Own.lower (Own.touch I5.out t6 (fun k hk e=>by have:=(aK I5.out hk).1;omega)) (by omega)
end Go.Proofs.YtaellcgglldjaaaGreat

