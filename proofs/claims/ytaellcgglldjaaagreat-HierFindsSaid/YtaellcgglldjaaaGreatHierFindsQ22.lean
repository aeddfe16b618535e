/- Part of a proof: CellsF HierT HierEa RedF PartN. -/
import Derived.Test.YtaellcgglldjaaaGreatHierFindsQ13
import Derived.BigRegion
import Derived.Stop.RegionWithIn
import Derived.Shelf.Abstract
import Derived.Test.YtaellcgglldjaaaGreatHierFindsQ17
import Derived.Test.YtaellcgglldjaaaGreatHierFindsQ19
import Derived.Test.YtaellcgglldjaaaGreatHierFindsQ21
import Derived.Test.YtaellcgglldjaaaGreatHierFindsQ02
set_option linter.all false
set_option linter.unusedVariables false
set_option linter.unusedSimpArgs false
namespace Go.Proofs.YtaellcgglldjaaaGreat
open Go.RowKit
set_option maxHeartbeats 1000000 in
theorem rL {w:World} {sb:Nat} {m cap f:Nat} {caps:Array Value} {L:List aB} {p:aB→Bool} {base k0:Nat} (hL:L.length=m) (hm:m≤1000) (hv:Own cellE w base 28 (.slice (some ⟨sb,0,none⟩) m cap) L)
  (hp: ∀w',Ext w w'→ ∀q,q∈L→Calls Tryz.prog f (#[.agg #[.int .i64 q.1, .int .i64 q.2]]++caps) w' fun e w2=>e= .returned (.bool (p q))∧Ext w' w2)
  (eg: ∀args w,(callFunc f args).run Tryz.prog w= .ok (.enter f args) w)
  (hk:k0<m) (hyes: ∀q,L[k0]? =some q→p q=true) (hno: ∀j q,j<k0→L[j]? =some q→p q=false):
  Calls Tryz.prog 122 #[.slice (some ⟨sb,0,none⟩) m cap, .func (.func f) #[] caps] w fun e w'=>e= .returned (.int .i64 k0)∧Ext w w':=by
 have HV:=aA hv
 have HP:=aA hp
 have HY:=aA hyes
 have HNO:=aA hno
 have HL:=aA hL
 have zb:=(aF hv rfl).2
 clear hv hp hyes hno hL
 go_enter Tryz.func122,Tryz.ntmps122
 go_wp2
 go_loopw [8] (fun i wr=> ∃k:Nat,k≤k0∧i= .int .i64 k∧Ext w wr) (fun i _=>m-(intOf i).toNat)
 case atStart=>exact⟨0,Nat.zero_le _,rfl,Ext.refl _⟩
 obtain⟨k,hkk,rfl,hext⟩:=hrel
 have hz:=hext.size
 have hkm:k<m:=by omega
 obtain⟨q,hq⟩: ∃q,L[k]? =some q:=⟨_,zG (by rw[HL.out];exact hkm)⟩
 obtain⟨d0,d1,_⟩:=dZ (HV.out.ext hext) hq
 have hki:(k:Int)<(m:Int):=by omega
 have HQ:=aA (fun w' (hx:Ext wr w')=>HP.out w' (hext.trans hx) q (List.mem_of_getElem? hq))
 have zr:sb<wr.heap.size:=by omega
 by_cases hlt:k<k0
 ·have hf:=HNO.out k q hlt hq
  rw[hf]at HQ
  clear hq hf
  go_wp2_with fail
  refine(HQ.out _ (Ext.refl _)).mono ?_
  rintro e w2 ⟨rfl,hb2⟩
  go_wp2
  go_roundw
  case rel=>exact⟨k+1,by omega,by go_num,hext.trans hb2⟩
  simp[intOf];omega
 obtain rfl:k=k0:=by omega
 have hf:=HY.out q hq
 rw[hf]at HQ
 clear hq hf
 go_wp2_with fail
 refine(HQ.out _ (Ext.refl _)).mono ?_
 rintro e w2 ⟨rfl,hb2⟩
 go_wp2
 go_ret
 exact⟨rfl,hext.trans hb2⟩
def sU (l L:List aB) (m:Nat):Prop:=L.length=l.length∧ ∀q,q<l.length→L[q]? =if q<m∨l.length-m≤q then l[l.length-1-q]? else l[q]?
theorem aHk (l:List aB):sU l l 0:=⟨rfl,fun q hq=>by rw[if_neg (by omega)]⟩
theorem aLp {l L:List aB} {m:Nat} (h:sU l L m) (hm:l.length≤2*m+1):L=l.reverse:=by
 apply List.ext_getElem?
 intro q
 by_cases hq:q<l.length
 ·rw[h.2 q hq,List.getElem?_reverse hq]
  split
  ·rfl
  have:q=l.length-1-q:=by omega
  rw[←this]
 rw[List.getElem?_eq_none (by rw[h.1];omega),List.getElem?_eq_none (by simp;omega)]
theorem aJy {l L:List aB} {m:Nat} (h:sU l L m) (hm:2*m+1<l.length) {p q:aB} (hp:L[m]? =some p) (hq:L[l.length-1-m]? =some q):sU l ((L.set m q).set (l.length-1-m) p) (m+1):=by
 have e1:=h.2 m (by omega)
 have e2:=h.2 (l.length-1-m) (by omega)
 rw[if_neg (by omega),hp]at e1
 rw[if_neg (by omega),hq]at e2
 refine⟨by simp[h.1],fun k hk=> ?_⟩
 rw[List.getElem?_set,List.getElem?_set,List.length_set,h.1]
 by_cases a:l.length-1-m=k
 ·subst a
  rw[if_pos rfl,if_pos (by omega),if_pos (by omega),show l.length-1-(l.length-1-m)=m by omega,e1]
 rw[if_neg a]
 by_cases b:m=k
 ·subst b
  rw[if_pos rfl,if_pos (by omega),if_pos (by omega),e2]
 rw[if_neg b,h.2 k hk]
 by_cases d:k<m∨l.length-m≤k
 ·rw[if_pos d,if_pos (by omega)]
 rw[if_neg d,if_neg (by omega)]
set_option maxRecDepth 100000 in
set_option maxHeartbeats 2000000 in
theorem rV {w:World} {g c base n:Nat} {l:List aB} (hl:l.length=n) (h1:1≤n) (hn:n≤100000) (hv:Own cellE w base 28 (.slice (some ⟨g,0,none⟩) n c) l):
  Calls Tryz.prog 71 #[.slice (some ⟨g,0,none⟩) n c] w fun e w'=>e= .returned (.tuple #[])∧Own cellE w' base 28 (.slice (some ⟨g,0,none⟩) n c) l.reverse∧Touch (fun k=>k=g) w w':=by
 have HV:=aA hv
 have HL:=aA hl
 clear hv hl
 go_enter Tryz.func71,Tryz.ntmps71
 go_wp2
 go_loopw [2,3] (fun i j wr=> ∃(m:Nat) (L:List aB),2*m≤n∧i= .int .i64 m∧j= .int .i64 ((n:Int)-1-(m:Int))∧sU l L m∧Own cellE wr base 28 (.slice (some ⟨g,0,none⟩) n c) L∧Touch (fun k=>k=g) w wr) (fun i _ _=>n-(intOf i).toNat)
 case atStart=>exact⟨0,l,by omega,rfl,by go_num,aHk l,HV.out,Touch.refl _ _⟩
 obtain⟨m,L,hmn,rfl,rfl,hrev,hown,ht⟩:=hrel
 have R:=aA hrev
 have O:=aA hown
 have T:=aA ht
 have hLn:L.length=n:=by rw[hrev.1,HL.out]
 have HLn:=aA hLn
 by_cases hlt:2*m+1<n
 ·obtain⟨j,hj⟩: ∃j,j=n-1-m:=⟨_,rfl⟩
  have hji:(n:Int)-1-(m:Int)=(j:Int):=by omega
  obtain⟨⟨px,py⟩,hp⟩: ∃p,L[m]? =some p:=⟨_,zG (by omega)⟩
  obtain⟨⟨qx,qy⟩,hq⟩: ∃q,L[j]? =some q:=⟨_,zG (by omega)⟩
  obtain⟨a0,a1,zg⟩:=dZ hown hp
  obtain⟨b0,b1,_⟩:=dZ hown hq
  have h':wr.ownsRow base 28 2 (.slice (some ⟨g,0,none⟩) n c) L.length (L.flatMap cellE.cells):=hown
  rw[hLn]at h'
  have f0:=h'.frozenAt (m*2)
  have f1:=h'.frozenAt (m*2+1)
  have f2:=h'.frozenAt (j*2)
  have f3:=h'.frozenAt (j*2+1)
  have hst:=aA (aJy (p:=(px,py)) (q:=(qx,qy)) hrev (by rw[HL.out];exact hlt) hp (by rw[HL.out,←hj];exact hq))
  obtain⟨w1,hw1⟩: ∃w1,w1=fD (fD wr g (m*2) (cellE.cells (qx,qy))) g (j*2) (cellE.cells (px,py)):=⟨_,rfl⟩
  have o1:Own cellE w1 base 28 (.slice (some ⟨g,0,none⟩) n c) ((L.set m (qx,qy)).set j (px,py)):=by
   rw[hw1]
   exact(hown.turn (i:=m) (by omega) (qx,qy)).turn (i:=j) (by rw[List.length_set];omega) (px,py)
  have t1:Touch (fun k=>k=g) wr w1:=by
   rw[hw1]
   exact(cY g _ _ _).trans (cY g _ _ _)
  have O1:=aA o1
  have T1:=aA (ht.trans t1)
  have HW1:=aA hw1
  have HJ:=aA hj
  have hne:m≠j:=by omega
  have m1:(m:Int)<(n:Int):=by omega
  have m2:(j:Int)<(n:Int):=by omega
  have m3:(m:Int)<(j:Int):=by omega
  have hjb:m+1≤j:=by omega
  rw[hji]
  have HLT:=aA hlt
  clear hrev hown ht hLn hp hq h' hw1 o1 t1 hj hji hmn hlt
  simp only at a0 a1 b0 b1
  go_wp2
  go_region
  rw[show(((wr.setCell ⟨g,m*2,none⟩ (.int .i64 qx)).setCell ⟨g,m*2+1,none⟩ (.int .i64 qy)).setCell ⟨g,j*2,none⟩ (.int .i64 px)).setCell ⟨g,j*2+1,none⟩ (.int .i64 py)=w1 from HW1.out.symm]
  clear a0 a1 b0 b1 f0 f1 f2 f3
  go_wp2
  go_roundw
  case rel=>exact⟨m+1,(L.set m (qx,qy)).set j (px,py),by(have:=HLT.out;omega),by go_num,by(have:=HJ.out;congr 1;push_cast;omega),by rw[HL.out,←HJ.out]at hst;exact hst.out,O1.out.drew,T1.out.drew⟩
  simp[intOf];omega
 have hd:decide ((m:Int)<(n:Int)-1-(m:Int))=false:=by simp;omega
 have he:=aLp hrev (by rw[HL.out];omega)
 subst he
 clear hrev hown ht hlt hLn HLn R
 go_wp2
 go_end0
 exact⟨rfl,O.out,T.out⟩
def aG (W:Int) (v:Nat):aB:=(vx W v,vy W v)
theorem Row16.touch {S:Nat→Prop} {w w':World} {a:Option Addr} {l:List Int} (h:Row16 w a l) (e:Touch S w w') (hs: ∀b off,a=some ⟨b,off,none⟩→ ¬S b):Row16 w' a l:=fun h0=>by
 obtain⟨b,off,ha,hb,hc⟩:=h h0
 exact⟨b,off,ha,Nat.lt_of_lt_of_le hb e.size,fun k hk=>(e.cell (p:=⟨b,off+k,none⟩) hb (hs b off ha)).trans (hc k hk)⟩
end Go.Proofs.YtaellcgglldjaaaGreat

namespace Go.Proofs.YtaellcgglldjaaaGreat
open Go.RowKit
theorem bV {W H:Int} {c:aB} (h:inB W H c.1 c.2=true):aG W (aC W c)=c:=by
 have b:=inB_true.1 h
 obtain⟨x,y⟩:=c
 simp only at b
 unfold aG
 rw[dQ (by omega) (by omega) (by omega),dR (by omega) (by omega) (by omega)]
theorem oC {W H:Int} {a c:aB} (ha:inB W H a.1 a.2=true) (hc:inB W H c.1 c.2=true) (h:aC W a=aC W c):a=c:=by
 rw[←bV ha,←bV hc,h]
theorem qE {W H s:Int} {l:List Int} (g:Good W H s l) {v:Nat} (hv:v<l.length):inB W H (aG W v).1 (aG W v).2=true∧aC W (aG W v)=v:=by
 obtain⟨hm,hl⟩:=checkE_ok.1 g.ok
 have hb:=mayB_true.1 hm
 have hlt:(v:Int)<W*H:=by omega
 have:=aMm (H:=H) (W:=W) (by omega) hlt
 exact⟨inB_true.2 ⟨by omega,by omega,by omega,by omega,this.1,this.2.1,this.2.2.1,this.2.2.2⟩,gE (by omega) v⟩
theorem aD5 {W H s id:Int} {l:List Int} (L:fE W H s id l):(aE L).n=l.length:=rfl
theorem qV {W H s:Int} {l:List Int} (g:Good W H s l) {a:aB} (ha:inB W H a.1 a.2=true): ∃L:fE W H s (ofN W s a.1 a.2) l,∀c,cA W H s l a c=cL L a (aC W c):=by
 have L:=g.box (iF g.right ha)
 refine⟨L,fun c=> ?_⟩
 unfold cA
 rw[dif_pos L]
theorem aIu {W H s:Int} {l:List Int} (g:Good W H s l) (hl:l.length≤150) {a c:aB} (ha:inB W H a.1 a.2=true) (hc:inB W H c.1 c.2=true) (hne:c≠a) (hd:cA W H s l a c≠aJ):0<cA W H s l a c∧cA W H s l a c≤10000000:=by
 obtain⟨L,hL⟩:=qV g ha
 rw[hL]at hd⊢
 have F:=eY L a
 have hlt:cL L a (aC W c)<aJ:=by have:=F.le (aC W c);omega
 have ho:=F.open_ hlt
 have hs:aC W c≠aC W a:=fun e=>hne (oC hc ha e)
 obtain⟨u,_,_,he⟩:=F.from_ _ ho hs hlt
 have hn:=F.nn u
 have hp:=(aE L).pos _ ho
 have hlow:=aCr F _ hlt
 rw[aD5 L]at hlow
 exact⟨by omega,by omega⟩
def opH (W H:Int) (G:List (aB×aB)) (f t:aB) (n v:Nat):Bool:=decide (v<n)&&cE G f t (aG W v)
noncomputable def iI (W H s:Int) (l:List Int) (G:List (aB×aB)) (f t:aB) (v:Nat):List (Nat×Int):=(cB W H s l G f t (aG W v)).map fun q=>(aC W q.1,q.2)
theorem kG {W H s:Int} {l:List Int} (g:Good W H s l) {G:List (aB×aB)} {f t:aB} {v:Nat}:opH W H G f t l.length v=true↔ ∃c,c∈aN W H G f t∧aC W c=v:=by
 unfold opH
 have hb:=mayB_true.1 (checkE_ok.1 g.ok).1
 constructor
 ·intro h
  rw[Bool.and_eq_true,decide_eq_true_eq]at h
  obtain⟨h1,h2⟩:=qE g h.1
  have:=inB_true.1 h1
  refine⟨aG W v,?_,h2⟩
  unfold aN
  rw[List.mem_filter,jI]
  exact⟨by omega,h.2⟩
 rintro⟨c,hc,rfl⟩
 unfold aN at hc
 rw[List.mem_filter,jI]at hc
 have hi:inB W H c.1 c.2=true:=inB_true.2 (by omega)
 rw[bV hi,hc.2,Bool.and_true,decide_eq_true_eq]
 exact iW (checkE_ok.1 g.ok).2 hi
theorem dJ {W H s:Int} {l:List Int} (g:Good W H s l) {G:List (aB×aB)} {f t c:aB} (h:c∈aN W H G f t):inB W H c.1 c.2=true:=by
 have hb:=mayB_true.1 (checkE_ok.1 g.ok).1
 have:=nodesL_mem.1 h
 exact inB_true.2 (by omega)
theorem wH {W H s:Int} {l:List Int} (g:Good W H s l) {f t c:aB} (h:gIn (aD W H s l) c=true):c∈aN W H (aD W H s l) f t:=by
 have hi:=aL9 g.right (gIn_flat.1 h)
 have:=inB_true.1 hi
 exact nodesL_mem.2 ⟨by omega, .inr (.inr h)⟩
theorem leg_mem {W H s:Int} {l:List Int} {G:List (aB×aB)} {f t a:aB} {q:aB×Int}:q∈cB W H s l G f t a↔
  (q.1∈aN W H G f t∧ofN W s q.1.1 q.1.2=ofN W s a.1 a.2∧q.1≠a∧cA W H s l a q.1≠aJ∧q.2=cA W H s l a q.1)∨(∃g∈G,q∈gL W l a g):=by
 unfold cB bL bH
 rw[List.mem_append,List.mem_map,List.mem_flatMap]
 refine or_congr ⟨?_,?_⟩ Iff.rfl
 ·rintro⟨c,hc,rfl⟩
  rw[List.mem_filter]at hc
  simp only[Bool.and_eq_true,decide_eq_true_eq,Bool.not_eq_true',decide_eq_false_iff_not]at hc
  exact⟨hc.1,hc.2.1,hc.2.2.1,hc.2.2.2,rfl⟩
 rintro⟨h1,h2,h3,h4,h5⟩
 refine⟨q.1,?_,by rw[←h5]⟩
 rw[List.mem_filter]
 simp only[Bool.and_eq_true,decide_eq_true_eq,Bool.not_eq_true',decide_eq_false_iff_not]
 exact⟨h1,h2,h3,h4⟩
theorem aJh {W:Int} {l:List Int} {a:aB} {g:aB×aB} {q:aB×Int} (h:q∈gL W l a g):(g.1=a∧q=(g.2,aL l W g.2))∨(g.2=a∧q=(g.1,aL l W g.1)):=by
 unfold gL at h
 split at h
 ·next e=>simp only[List.mem_singleton]at h;exact .inl ⟨e,h⟩
 split at h
 ·next e=>simp only[List.mem_singleton]at h;exact .inr ⟨e,h⟩
 cases h
theorem kY {W H s:Int} {l:List Int} (g:Good W H s l) (hl:l.length≤150) {f t a:aB} (ha:inB W H a.1 a.2=true) {q:aB×Int} (h:q∈cB W H s l (aD W H s l) f t a):
  q.1∈aN W H (aD W H s l) f t∧q.1≠a∧0<q.2∧q.2≤10000000∧((ofN W s q.1.1 q.1.2=ofN W s a.1 a.2∧q.2=cA W H s l a q.1∧cA W H s l a q.1≠aJ)∨(ofN W s q.1.1 q.1.2≠ofN W s a.1 a.2∧q.2=aL l W q.1)):=by
 rcases leg_mem.1 h with⟨h1,h2,h3,h4,h5⟩|⟨e,he,hq⟩
 ·have hd:=aIu g hl ha (dJ g h1) h3 h4
  exact⟨h1,h3,by omega,by omega, .inl ⟨h2,h5,h4⟩⟩
 obtain⟨x,y,x0,xy,yb,_,i1,i2,o1,o2,hop,_⟩:=oB g.right he
 unfold lY at hop
 rw[Bool.and_eq_true,decide_eq_true_eq,decide_eq_true_eq]at hop
 have b1:=bX g.u16 W e.1
 have b2:=bX g.u16 W e.2
 rcases aJh hq with⟨rfl,rfl⟩|⟨rfl,rfl⟩
 ·refine⟨wH g (gIn_iff.2 ⟨e,he, .inr rfl⟩),fun k=> ?_,by simp only;omega,by simp only;omega, .inr ⟨by simp only;omega,rfl⟩⟩
  simp only at k
  rw[k]at o2
  omega
 refine⟨wH g (gIn_iff.2 ⟨e,he, .inl rfl⟩),fun k=> ?_,by simp only;omega,by simp only;omega, .inr ⟨by simp only;omega,rfl⟩⟩
 simp only at k
 rw[k]at o1
 omega
noncomputable def hGr {W H s:Int} {l:List Int} (g:Good W H s l) (hl:l.length≤150) (f t:aB):LGr where
 n:=l.length
 op:=opH W H (aD W H s l) f t l.length
 legs:=iI W H s l (aD W H s l) f t
 lt v h:=by
  unfold opH at h
  rw[Bool.and_eq_true,decide_eq_true_eq]at h
  exact h.1
 leg v h q hq:=by
  obtain⟨c,hc,rfl⟩:=(kG g).1 h
  have hi:=dJ g hc
  unfold iI at hq
  rw[bV hi]at hq
  obtain⟨p,hp,rfl⟩:=List.mem_map.1 hq
  obtain⟨h1,h2,h3,h4,_⟩:=kY g hl hi hp
  exact⟨(kG g).2 ⟨p.1,h1,rfl⟩,h3,h4⟩
open Classical in
noncomputable def cS (W H s:Int) (l:List Int) (u v:aB):List aB:=
 if ofN W s v.1 v.2=ofN W s u.1 u.2 then(if h: ∃(L:fE W H s (ofN W s u.1 u.2) l) (p:List Nat),BackP (aE L) (cL L u) (aC W v) p then((Classical.choose (Classical.choose_spec h)).reverse.map (aG W)).drop 1 else[]) else[v]
theorem nI {W H s:Int} {l:List Int} {u v:aB} (h:ofN W s v.1 v.2≠ofN W s u.1 u.2):cS W H s l u v=[v]:=by
 unfold cS;rw[if_neg h]
theorem vC {W H s:Int} {l:List Int} {u v:aB} (h:ofN W s v.1 v.2=ofN W s u.1 u.2) (L:fE W H s (ofN W s u.1 u.2) l) {p:List Nat} (hp:BackP (aE L) (cL L u) (aC W v) p):cS W H s l u v=(p.reverse.map (aG W)).drop 1:=by
 unfold cS
 have hx: ∃(L:fE W H s (ofN W s u.1 u.2) l) (p:List Nat),BackP (aE L) (cL L u) (aC W v) p:=⟨L,p,hp⟩
 rw[if_pos h,dif_pos hx,(Classical.choose_spec (Classical.choose_spec hx)).one hp]
noncomputable def eB (W H s:Int) (l:List Int) (f:aB) (ch:List Nat):List aB:=f::fH (fun u v=>cS W H s l (aG W u) (aG W v)) [] ch
def HSrch (W H s:Int) (l:List Int) (f t:aB) (b:Int) (p:List aB) (c k e:Int):Prop:=
 (¬(inB W H f.1 f.2=true∧inB W H t.1 t.2=true)∧p=[]∧c=0∧k=0∧e=10)∨
 ((inB W H f.1 f.2=true∧inB W H t.1 t.2=true)∧b<0∧p=[]∧c=0∧k=0∧e=1)∨
 ((inB W H f.1 f.2=true∧inB W H t.1 t.2=true)∧0≤b∧(aL l W f=0∨aL l W t=0)∧p=[]∧c=0∧k=0∧e=22)∨
 ((inB W H f.1 f.2=true∧inB W H t.1 t.2=true)∧0≤b∧ ¬(aL l W f=0∨aL l W t=0)∧ ∃(g:Good W H s l) (hl:l.length≤150),LRun (hGr g hl f t) W (aC W t) b (eB W H s l f) (aY (aC W f)) p c k e)
theorem HSrch.one {W H s:Int} {l:List Int} {f t:aB} {b:Int} {p p':List aB} {c c' k k' e e':Int} (h:HSrch W H s l f t b p c k e) (h':HSrch W H s l f t b p' c' k' e'):p=p'∧c=c'∧k=k'∧e=e':=by
 rcases h with⟨h1,rfl,rfl,rfl,rfl⟩|⟨h1,h2,rfl,rfl,rfl,rfl⟩|⟨h1,h2,h3,rfl,rfl,rfl,rfl⟩|⟨h1,h2,h3,g,hl,h4⟩<;>
  rcases h' with⟨k1,rfl,rfl,rfl,rfl⟩|⟨k1,k2,rfl,rfl,rfl,rfl⟩|⟨k1,k2,k3,rfl,rfl,rfl,rfl⟩|⟨k1,k2,k3,g',hl',k4⟩<;>
  first
   |exact⟨rfl,rfl,rfl,rfl⟩
   |exact absurd k1 h1
   |exact absurd h1 k1
   |(exfalso;omega)
   |exact absurd h3 k3
   |exact absurd k3 h3
   |exact h4.one (by have:=mayB_true.1 (checkE_ok.1 g.ok).1;omega) k4
end Go.Proofs.YtaellcgglldjaaaGreat

namespace Go.Proofs.YtaellcgglldjaaaGreat
open Go.RowKit
structure BestM (A:AS) (v:Nat→Nat) (i:Nat) (o:Option Nat):Prop where
 none:o=none→ ∀k,k<i→A.st (v k)≠1
 some: ∀j,o=some j→j<i∧A.st (v j)=1∧ ∀k,k<i→A.st (v k)=1→A.g (v j)≤A.g (v k)∧(A.g (v j)=A.g (v k)→j≤k)
section
variable {A:AS} {v:Nat→Nat} {i j:Nat} {o:Option Nat}
theorem BestM.start:BestM A v 0 Option.none:=⟨fun _ _ h=>absurd h (Nat.not_lt_zero _),fun _ h=>by cases h⟩
theorem BestM.skip (h:BestM A v i o) (hs:A.st (v i)≠1):BestM A v (i+1) o:=by
 refine⟨fun ho k hk=> ?_,fun j ho=> ?_⟩
 ·by_cases e:k=i
  ·rw[e];exact hs
  exact h.none ho k (by omega)
 obtain⟨h1,h2,h3⟩:=h.some j ho
 refine⟨by omega,h2,fun k hk hk1=> ?_⟩
 by_cases e:k=i
 ·rw[e]at hk1;exact absurd hk1 hs
 exact h3 k (by omega) hk1
theorem BestM.first (h:BestM A v i Option.none) (hs:A.st (v i)=1):BestM A v (i+1) (Option.some i):=by
 refine⟨(fun ho=>by cases ho),fun j ho=> ?_⟩
 cases ho
 refine⟨by omega,hs,fun k hk hk1=> ?_⟩
 by_cases e:k=i
 ·rw[e];exact⟨Int.le_refl _,fun _=>Nat.le_refl _⟩
 exact absurd hk1 (h.none rfl k (by omega))
theorem BestM.less (h:BestM A v i (Option.some j)) (hs:A.st (v i)=1) (hl:A.g (v i)<A.g (v j)):BestM A v (i+1) (Option.some i):=by
 obtain⟨h1,h2,h3⟩:=h.some j rfl
 refine⟨(fun ho=>by cases ho),fun q ho=> ?_⟩
 cases ho
 refine⟨by omega,hs,fun k hk hk1=> ?_⟩
 by_cases e:k=i
 ·rw[e];exact⟨Int.le_refl _,fun _=>Nat.le_refl _⟩
 have:=(h3 k (by omega) hk1).1
 exact⟨by omega,fun hh=>by omega⟩
theorem BestM.keep (h:BestM A v i (Option.some j)) (hs:A.st (v i)=1) (hl: ¬A.g (v i)<A.g (v j)):BestM A v (i+1) (Option.some j):=by
 obtain⟨h1,h2,h3⟩:=h.some j rfl
 refine⟨(fun ho=>by cases ho),fun q ho=> ?_⟩
 cases ho
 refine⟨by omega,h2,fun k hk hk1=> ?_⟩
 by_cases e:k=i
 ·rw[e];exact⟨by omega,fun _=>by omega⟩
 exact h3 k (by omega) hk1
end
def nvN (W:Int) (N:List aB) (i:Nat):Nat:=aC W (N.getD i (0,0))
section
variable {W H s:Int} {l:List Int} {f t:aB}
theorem nB {N:List aB} {i:Nat} {c:aB} (h:N[i]? =some c):nvN W N i=aC W c:=by
 unfold nvN
 rw[List.getD_eq_getElem?_getD,h]
 rfl
theorem aEg (g:Good W H s l) (hl:l.length≤150) {u:Nat} (h:(hGr g hl f t).op u=true): ∃i,i<(aN W H (aD W H s l) f t).length∧nvN W (aN W H (aD W H s l) f t) i=u:=by
 obtain⟨c,hc,rfl⟩:=(kG g).1 h
 obtain⟨i,hi⟩:=List.mem_iff_getElem?.1 hc
 exact⟨i,(zJ hi).1,nB hi⟩
theorem qY (g:Good W H s l) {i:Nat} (hi:i<(aN W H (aD W H s l) f t).length): ∃c,(aN W H (aD W H s l) f t)[i]? =some c∧c∈aN W H (aD W H s l) f t∧inB W H c.1 c.2=true∧aG W (nvN W (aN W H (aD W H s l) f t) i)=c∧nvN W (aN W H (aD W H s l) f t) i=aC W c:=by
 have h:=zG hi
 have hm:=List.getElem_mem hi
 have hb:=dJ g hm
 exact⟨_,h,hm,hb,by rw[nB h,bV hb],nB h⟩
theorem aMw (g:Good W H s l) {i:Nat} (hi:i<(aN W H (aD W H s l) f t).length):nvN W (aN W H (aD W H s l) f t) i<l.length:=by
 obtain⟨c,_,_,hb,_,e⟩:=qY g hi
 rw[e]
 exact iW (checkE_ok.1 g.ok).2 hb
theorem zT (g:Good W H s l) {i k:Nat} (hk:k<(aN W H (aD W H s l) f t).length) (hik:i<k):vy W (nvN W (aN W H (aD W H s l) f t) i)<vy W (nvN W (aN W H (aD W H s l) f t) k)∨(vy W (nvN W (aN W H (aD W H s l) f t) i)=vy W (nvN W (aN W H (aD W H s l) f t) k)∧vx W (nvN W (aN W H (aD W H s l) f t) i)<vx W (nvN W (aN W H (aD W H s l) f t) k)):=by
 obtain⟨a,ha,_,_,ea,_⟩:=qY (f:=f) (t:=t) g (show i<_ from Nat.lt_trans hik hk)
 obtain⟨b,hb,_,_,eb,_⟩:=qY (f:=f) (t:=t) g hk
 have hs:=lL W H (aD W H s l) f t
 obtain⟨hi1,hi2⟩:=zJ ha
 obtain⟨hk1,hk2⟩:=zJ hb
 have h:=List.pairwise_iff_getElem.1 hs i k hi1 hk1 hik
 rw[hi2,hk2]at h
 unfold aG at ea eb
 rw[←ea,←eb]at h
 exact h
theorem aH5 (g:Good W H s l) {i k:Nat} (hi:i<(aN W H (aD W H s l) f t).length) (hk:k<(aN W H (aD W H s l) f t).length) (h:nvN W (aN W H (aD W H s l) f t) i=nvN W (aN W H (aD W H s l) f t) k):i=k:=by
 rcases Nat.lt_trichotomy i k with e|e|e
 ·have:=zT (f:=f) (t:=t) g hk e
  rw[h]at this
  omega
 ·exact e
 have:=zT (f:=f) (t:=t) g hi e
 rw[h]at this
 omega
theorem BestM.best (g:Good W H s l) (hl:l.length≤150) {A:AS} (hop: ∀u,A.st u≠0→(hGr g hl f t).op u=true) {j:Nat} (h:BestM A (nvN W (aN W H (aD W H s l) f t)) (aN W H (aD W H s l) f t).length (Option.some j)):eL W (fun _=>0) A (nvN W (aN W H (aD W H s l) f t) j):=by
 obtain⟨h1,h2,h3⟩:=h.some j rfl
 refine⟨h2,fun u hu=> ?_⟩
 obtain⟨k,hk,rfl⟩:=aEg g hl (hop u (by omega))
 obtain⟨h4,h5⟩:=h3 k hk hu
 rw[Bool.eq_false_iff]
 intro hn
 rw[lessB_iff]at hn
 unfold kOf at hn
 simp only at hn
 rcases Nat.lt_or_ge j k with e|e
 ·have:=zT (f:=f) (t:=t) g hk e
  omega
 by_cases e2:A.g (nvN W (aN W H (aD W H s l) f t) j)=A.g (nvN W (aN W H (aD W H s l) f t) k)
 ·have:=h5 e2
  have e3:j=k:=by omega
  subst e3
  omega
 omega
theorem BestM.empty (g:Good W H s l) (hl:l.length≤150) {A:AS} (hop: ∀u,A.st u≠0→(hGr g hl f t).op u=true) (h:BestM A (nvN W (aN W H (aD W H s l) f t)) (aN W H (aD W H s l) f t).length Option.none) (u:Nat):A.st u≠1:=fun hu=>by
 obtain⟨k,hk,rfl⟩:=aEg g hl (hop u (by omega))
 exact h.none rfl k hk hu
def gR (c:Nat) (A:AS) (q:Nat×Int) (v:Nat→Nat) (j i:Nat):AS:=if j<i then rl c A (v j,q.2) else A
end
end Go.Proofs.YtaellcgglldjaaaGreat

namespace Go.Proofs.YtaellcgglldjaaaGreat
open Go.RowKit
theorem aFl (l:List Bool):l.flatMap boolE.cells=l.map Value.bool:=by
 induction l with
 |nil=>rfl
 |cons a l ih=>simp[boolE]at *;exact ih
def eF (x:Bool) (n m:Nat):List Value:=List.replicate m (.bool x)++List.replicate (n-m) (.bool false)
theorem wU {x:Bool} {n m:Nat} (h:m≤n):(eF x n m).length=n:=by simp[eF];omega
theorem aK2 {x:Bool} {n m k:Nat} (h:k<m):(eF x n m)[k]? =some (.bool x):=by
 unfold eF
 rw[List.getElem?_append_left (by simpa using h)]
 simp[h]
theorem qL {x:Bool} {n m d:Nat}:splice (eF x n m) m (List.replicate d (.bool x))=eF x n (m+d):=by
 unfold splice eF
 rw[List.take_append_of_le_length (by simp),List.take_of_length_le (by simp),List.drop_append]
 simp only[List.length_replicate,List.drop_replicate]
 rw[show m-(m+d)=0 by omega,show m+d-m=d by omega,show n-m-d=n-(m+d) by omega]
 simp only[List.replicate_zero,List.nil_append]
 rw[←List.append_assoc,List.replicate_append_replicate]
set_option maxRecDepth 100000 in
theorem aC5 {w:World} (b:Nat) (x:Bool) (n:Nat) (h1:1≤n) (hn:n≤100000) (hb:b<w.heap.size) (hx:w.cell? ⟨b,0,none⟩=some (.bool x)):
  Calls Tryz.prog 39 #[.slice (some ⟨b,0,none⟩) 1 1, .int .i64 (n:Int)] w fun e w'=> ∃v,e= .returned v∧Ext w w'∧Own boolE w' w.heap.size 4 v (List.replicate n x):=by
 have H1:=aA (mul_one n (by omega) w)
 have hu:=T_bools.under
 have hinf:(Tryz.prog.info? 4).map (fun i=>(i.zero,i.size,i.bytes))=some (some (.bool false),1,1):=by kernel_rfl
 have hsz:(Tryz.prog.info? 4).map (·.size)=some 1:=by kernel_rfl
 have hmk:=run_make_row' (P:=Tryz.prog) 96 4 (.bool false) 1 hu hinf rfl .i64 .i64 n (by omega) (by omega)
 have e1:IntKind.i64.wrap (n:Int)=(n:Int):=IntWalk.i64_in _ (by omega)
 have e2:IntKind.u64.wrap (n:Int)=(n:Int):=by rw[IntKind.wrap_u64];omega
 have g1: ¬((n:Int)<0):=by omega
 have g2: ¬((9223372036854775807:Int)<(n:Int)):=by omega
 have HSZ:=aA hsz
 have HU:=aA hu
 clear hsz hu hinf
 go_enter Tryz.func39,Tryz.ntmps39
 go_upto_region 7 with(first|(go_at_call 83;refine(H1.out).mono ?_;rintro e w' ⟨rfl,hw⟩;rw[hw];clear hw))
 obtain⟨w1,hw1⟩: ∃w1,w1=w.alloc (.cells (madeCells #[.bool false] n) 4):=⟨_,rfl⟩
 have hx1:Ext w w1:=by rw[hw1];exact z_x
 have r1:w1.heap[w.heap.size]? =some (.cells (eF x n 0).toArray 4 (0,0)):=by
  rw[hw1,kC]
  congr 1
  congr 1
  apply Array.toList_inj.1
  rw[toList_madeCells_one]
  simp[eF]
 have x1:=(hx1.cell (p:=⟨b,0,none⟩) hb).trans hx
 rw[←hw1]
 clear hw1 hmk
 have R1:=aA r1
 have X1:=aA x1
 have HX1:=aA hx1
 clear r1 x1 hx1
 have hmin:([Value.bool x]:List Value).length=Nat.min 1 n:=(Nat.min_eq_left h1).symm
 have hfit:0+([Value.bool x]:List Value).length≤(eF x n 0).length:=by rw[wU (by omega)];simp;omega
 have hpos:0<([Value.bool x]:List Value).length→some (⟨w.heap.size,0,none⟩:Addr)=some ⟨w.heap.size,0,none⟩∧ ∃ad,some (⟨b,0,none⟩:Addr)=some ad∧ ∀j v,([Value.bool x]:List Value)[j]? =some v→w1.cell? (ad.add j)=some v:=fun _=>⟨rfl,_,rfl,fun j v hj=>by
  cases j with
  |zero=>simp at hj;subst hj;exact X1.out
  |succ j=>simp at hj⟩
 have hone: ∀v∈[Value.bool x],v.oneCell'=true:=fun v hv=>by simp at hv;subst hv;rfl
 have HP:=aA hpos
 have HO:=aA hone
 clear hpos hone
 go_wp2_with (with_reducible refine wpList_copy_splice rfl (.tmp 31) (.tmp 32) 96 96 rfl 4 HU.out HSZ.out (some ⟨w.heap.size,0,none⟩) (some ⟨b,0,none⟩) n n 1 1 rfl rfl w.heap.size 0 (eF x n 0) 4 R1.out [.bool x] hmin HP.out hfit HO.out w.heap.size w HX1.out.below (Nat.le_refl _) ?_;intro w2 hg2 hb2;have hb2h:=aA hb2;clear hb2)
 have R2:Hid (w2.heap[w.heap.size]? =some (.cells (eF x n 1).toArray 4 (0,0))):=by
  have e:=qL (x:=x) (n:=n) (m:=0) (d:=1)
  rw[show List.replicate 1 (Value.bool x)=[Value.bool x] from rfl,Nat.zero_add]at e
  rw[←e]
  exact hg2
 clear hg2 R1 X1 HX1 HP HO H1
 go_loopw [8] (fun i wr=> ∃m:Nat,1≤m∧m≤n∧i= .int .i64 m∧wr.heap[w.heap.size]? =some (.cells (eF x n m).toArray 4 (0,0))∧Below w.heap.size w wr) (fun i _=>n-(intOf i).toNat)
 case atStart=>exact⟨1,Nat.le_refl _,h1,rfl,R2.out,hb2h.out⟩
 obtain⟨m,hm1,hmn,rfl,hrow,hbel⟩:=hrel
 have HR:=aA hrow
 have HB:=aA hbel
 have hz:=hbel.size
 clear hrow hbel R2 hb2h
 by_cases hlt:m<n
 ·have hli:(m:Int)<(n:Int):=by omega
  have hli0:(0:Int)≤(m:Int):=by omega
  obtain⟨d,hd,hd1,hd2⟩: ∃d,d=min m (n-m)∧1≤d∧m+d≤n:=⟨_,rfl,by omega,by omega⟩
  have c1:(List.replicate d (Value.bool x)).length=Nat.min m (n-m):=by rw[List.length_replicate];exact hd
  have c2:m+(List.replicate d (Value.bool x)).length≤(eF x n m).length:=by rw[wU hmn,List.length_replicate];exact hd2
  have c3:=aA (fun(wq:World) (hq:wq.heap[w.heap.size]? =some (.cells (eF x n m).toArray 4 (0,0)))=>(fun _=>⟨if_neg (by omega),_,rfl,fun j v hj=>by
   rw[List.getElem?_replicate]at hj
   split at hj
   ·cases hj
    have:(wq.cell? ((⟨w.heap.size,0,none⟩:Addr).add j))=(eF x n m)[j]? :=by
     rw[show((⟨w.heap.size,0,none⟩:Addr).add j)=⟨w.heap.size,j,none⟩ by simp[Addr.add];exact fun h=>h.symm]
     simp[World.cell?,hq]
    rw[this]
    exact aK2 (by omega)
   cases hj⟩:0<(List.replicate d (Value.bool x)).length→(if n=m then some (⟨w.heap.size,0,none⟩:Addr) else some ⟨w.heap.size,m,none⟩)=some ⟨w.heap.size,m,none⟩∧ ∃ad,some (⟨w.heap.size,0,none⟩:Addr)=some ad∧ ∀j v,(List.replicate d (Value.bool x))[j]? =some v→wq.cell? (ad.add j)=some v))
  have c4:=aA (fun v hv=>by rw[List.eq_of_mem_replicate hv];rfl: ∀v∈List.replicate d (Value.bool x),v.oneCell'=true)
  have HSP:=aA (qL (x:=x) (n:=n) (m:=m) (d:=d))
  have c5:=aA c1
  have c6:=aA c2
  clear c1 c2
  go_wp2_with fail
  have HDD:=aA hd
  clear hd
  have k1:IntKind.i64.wrap ((m:Int)+(d:Int))=(m:Int)+(d:Int):=IntWalk.i64_in _ (by omega)
  have k2:(List.replicate d (Value.bool x)).length=d:=List.length_replicate
  refine wp_region_held_drew (S:=(fun _=>True)) (by kernel_rfl) trivial (fun hK0=> ?_)
  (((refine bE 0 ?_;try simp only[zz]));((refine bE 1 ?_;try simp only[zz]));((refine bE 2 ?_;try simp only[zz]));((refine bE 3 ?_;try simp only[zz]));((refine bE 4 ?_;try simp only[zz]));((refine bE 5 ?_;try simp only[zz]));((refine bE 6 ?_;try simp only[zz])))
  refine wpAnyH_ready (rs:=[7]) (by kernel_rfl) (by simp) ?_
  refine AllReadyH.cons (o:= ?go) ?ghi (fun K hK=> ?_) AllReadyH.nil
  case ghi=>(simp only[List.getElem?_toArray,List.getElem?_cons_succ,List.getElem?_cons_zero];rfl)
  refine step_copy_splice rfl (.tmp 41) (.tmp 44) 96 96 rfl 4 HU.out HSZ.out (if n=m then some (⟨w.heap.size,0,none⟩:Addr) else some ⟨w.heap.size,m,none⟩) (some ⟨w.heap.size,0,none⟩) (n-m) (n-m) m n rfl rfl w.heap.size m (eF x n m) 4 HR.out (List.replicate d (.bool x)) c5.out (c3.out _ HR.out) c6.out c4.out w.heap.size w HB.out.drew (Nat.le_refl _) ?_
  intro w4 hg4 hb4
  refine hK.out _ _ trivial (fun hK0=> ?_)
  clear hK K
  simp only[Act.put,List.setIfInBounds_toArray,List.set_cons_zero,List.set_cons_succ]
  rw[k2]
  (((refine bE 8 ?_;try simp only[zz]));((refine bE 9 ?_;try simp only[zz])))
  refine wpAnyH_done (by kernel_rfl) ?_ _
  have HG4:=aA hg4
  have HB4:=aA hb4
  clear hg4 hb4
  go_wp2
  go_roundw
  case rel=>exact⟨m+d,by omega,hd2,by go_num,by rw[←HSP.out];exact HG4.out.out,HB4.out⟩
  simp[intOf];omega
 obtain rfl:m=n:=by omega
 go_wp2
 go_ret
 exact⟨_,rfl,HB.out,by
  have hrw:=HR.out
  unfold Own
  rw[List.length_replicate,aFl,List.map_replicate]
  refine⟨by simp[boolE], .inr ⟨w.heap.size,m,_,rfl,Nat.le_refl _,hrw,Nat.le_refl _,by unfold maxLen;omega,by simp[eF,boolE],by simp[eF,boolE]⟩⟩⟩
theorem aJm (z u v:Value) (hz:z.cells= #[u,v]) (n:Nat):((List.replicate n ()).flatMap fun _=>[u,v])=(madeCells z.cells (n*2)).toList:=by
 unfold madeCells
 rw[hz]
 induction n with
 |zero=>simp
 |succ n ih=>
  rw[List.replicate_succ',List.flatMap_append,ih,show(n+1)*2=n*2+1+1 by omega,Array.range_succ,Array.range_succ]
  simp[show(n*2+1)% 2=1 by omega]
theorem gW {ops:Array Oper} {o:Oper} {a:Act} {K:Act→World→Prop} {Q:Exit→Act→World→Prop} {F:Prop} {w:World}
  (hgd:o.guard=none) (l c:Operand) (hop:o.op=Op.makeSlice 90 l c) (base n:Nat) (hl:a.eval l= .int .i64 (n:Int)) (hc:a.eval c= .int .i64 (n:Int)) (hn:n≤100000) (b4:base≤w.heap.size)
  (h: ∀w',Own tabE w' base 166 (.slice (some ⟨w.heap.size,0,none⟩) n n) (List.replicate n ((none,0,0),(none,0,0)))→Ext w w'→K (a.put o.dst (.slice (some ⟨w.heap.size,0,none⟩) n n)) w'):
  if Region.wanted o (yielded ops a.tmps)=true then Oper.wp Tryz.prog o a w K Q else F:=by
 have hw:Region.wanted o (yielded ops a.tmps)=true:=by simp[Region.wanted,hgd]
 rw[if_pos hw]
 obtain⟨i0,hi,hz0,hz1,hz2⟩:=info_parts T_tabs.info
 have hb:48*n≤281474976710656:=by omega
 obtain⟨w',hrun,r1,r2⟩:=run_make_full (P:=Tryz.prog) w base 90 166 i0 _ 2 T_tabs.under hi hz0 hz1 .i64 .i64 n (by rw[hz2];exact hb) (by unfold maxLen;omega) b4
 unfold Oper.wp execOp
 simp only[hop,hl,hc,hrun,Result.andThen_ok,Sem.run_bind,Sem.run_pure]
 refine h w' ?_ ((Ext.refl w).grown r2 (by simp))
 unfold Own
 rw[List.length_replicate]
 have hf:(List.replicate n (((none,0,0),(none,0,0)):Sl×Sl)).flatMap tabE.cells=(madeCells (Value.agg #[.slice none 0 0, .slice none 0 0]).cells (n*2)).toList:=by
  rw[←aJm _ (.slice none 0 0) (.slice none 0 0) rfl]
  clear h r1 r2 hrun hb hl hc hn
  induction n with
  |zero=>rfl
  |succ n ih=>rw[List.replicate_succ,List.flatMap_cons,ih,List.replicate_succ,List.flatMap_cons];rfl
 rw[hf]
 exact r1
end Go.Proofs.YtaellcgglldjaaaGreat

namespace Go.Proofs.YtaellcgglldjaaaGreat
open Go.RowKit
theorem aLk (W H s:Int) (w:World) (hr:aK W H s=true):
  Calls Tryz.prog 35 #[.agg #[.int .i64 W, .int .i64 H], .int .i64 s] w fun e w'=>e= .returned (.tuple #[.agg #[.int .i64 W, .int .i64 H, .int .i64 s], .int .i64 0])∧Ext w w':=by
 go_enter Tryz.func35,Tryz.ntmps35
 go_wp2_with (first
  |(go_at_call 54;refine(jA _ _ _ _).mono ?_;rintro e w1 ⟨rfl,hb1⟩;obtain⟨hc1,hf1⟩:=hb1.cells;have hz1:=hb1.size;(try simp only[zS]at hz1);have z1_0:w.heap.size<w1.heap.size:=(by omega);have z1_1:w.heap.size+1<w1.heap.size:=(by omega);have z1_2:w.heap.size+2<w1.heap.size:=(by omega)))
 exact bodyPost_ret (v:= .tuple #[.agg #[.int .i64 W, .int .i64 H, .int .i64 s], .int .i64 0]) (by simp[results,Tryz.results35,go_sem, *]) rfl ⟨rfl,z_x⟩
end Go.Proofs.YtaellcgglldjaaaGreat

