/- Part of a proof: RedC RedD. -/
import Derived.Test.YtaellcgglldjaaaGreatHq17
set_option linter.all false
set_option linter.unusedVariables false
set_option linter.unusedSimpArgs false
namespace Go.Proofs.YtaellcgglldjaaaGreat
open Go.RowKit
theorem oS {W H s id:Int} {l:List aB}: ∀{n:Nat},(∀k,k<n→bW W H s id l k=0)→bS W H s id l n=0
 |0,_=>rfl
 |n+1,h=>mI (oS fun k hk=>h k (by omega)) (h n (by omega))
theorem aJs {W H s id:Int} {l:List Int} (g:Good W H s l) (hi:0≤id∧id<cnt W H s) {c:aB} (hc:c∈bN W H s l id):eB W H s id c=true:=by
 obtain⟨h1,h2⟩:=((fT g.right hi.1 hi.2).1 hc).1
 unfold eB
 simp[h1,h2]
theorem aH8 {W H s id:Int} {l:List Int} (g:Good W H s l) (hi:0≤id∧id<cnt W H s): ∀q∈bN W H s l id,InI q.1∧InI q.2:=fun q hq=>by
 obtain⟨h1,_⟩:=((fT g.right hi.1 hi.2).1 hq).1
 have:=inB_true.1 h1
 obtain⟨r1,r2,r3,r4,r5,r6⟩:=rightB_true.1 g.right
 unfold InI
 omega
theorem aJt {W H s id:Int} {l:List Int} (g:Good W H s l) (hi:0≤id∧id<cnt W H s):dC W H l.length W H s id (bN W H s l id)=0:=by
 refine innerE_ok.2 ⟨g.ok,rfl,rfl,g.right,hi,oS fun k hk=> ?_⟩
 have hin:=aJs g hi (List.getElem_mem hk)
 have hst:=kL W H s id (aI W H s l)
 have hst':(bN W H s l id).Pairwise ltC:=hst
 unfold bW
 have e:(bN W H s l id).getD k (0,0)=(bN W H s l id)[k]:=by simp[List.getD_eq_getElem?_getD,hk]
 rw[e,if_neg (by rw[hin];simp)]
 rw[if_neg]
 rintro⟨h0,hr⟩
 have e2:(bN W H s l id).getD (k-1) (0,0)=(bN W H s l id)[k-1]:=by
  have:k-1<(bN W H s l id).length:=by omega
  simp[List.getD_eq_getElem?_getD,this]
 rw[e2]at hr
 have hlt:=List.pairwise_iff_getElem.1 hst' (k-1) k (by omega) hk (by omega)
 unfold ltC at hlt
 unfold mG at hr
 simp at hr
 omega
theorem wZ {W H s id:Int} {l:List Int} (g:Good W H s l) (hi:0≤id∧id<cnt W H s):(bN W H s l id).length≤256:=rW g.right hi.1 hi.2 _
def boolE:Enc Bool:=⟨1,fun x=>[.bool x],fun _=>rfl,fun _ u hu=>by simp at hu;subst hu;rfl⟩
theorem T_bools:cX Tryz.prog 96 4 (.bool false) 1 1:=⟨Tryz.underlying96,by kernel_rfl,rfl,by decide⟩
theorem qN {w:World} {base n c g:Nat} {e:TypeId} {l:List Bool} {j:Nat} {b:Bool} (h:Own boolE w base e (.slice (some ⟨g,0,none⟩) n c) l) (hj:l[j]? =some b):w.cell? ⟨g,j,none⟩=some (.bool b):=by
 obtain⟨hjl,rfl⟩:=List.getElem?_eq_some_iff.1 hj
 obtain⟨a',c',en⟩:=h.slice
 have en':n=l.length:=by injection en
 clear en
 subst en'
 have h':w.ownsRow base e 1 (.slice (some ⟨g,0,none⟩) l.length c) l.length (l.flatMap boolE.cells):=h
 have f0:=cD boolE l j _ (List.getElem?_eq_getElem hjl) 0 (.bool l[j]) rfl
 have e0:(l.flatMap boolE.cells)[j]? =some (.bool l[j]):=by
  have e:j*boolE.size+0=j:=by show j*1+0=j;omega
  rwa [e]at f0
 have c0:=World.ownsRow.cellAt (size:=1) h' j (by omega)
 rw[e0]at c0
 exact c0
def uG (G:Int→Int→Option (List (aB×aB))) (x y:Int) (L:List (aB×aB)) (a b:Int):Option (List (aB×aB)):=if a=x∧b=y then some L else G a b
section
variable {w:World} {p:Spot} {R:Nat→Prop} {W H s:Int} {l:List Int} {G:Int→Int→Option (List (aB×aB))} {T:List Tab}
theorem Stand.put (h:Stand w p R W H s l G T) {x y:Int} (hx:Rg x y) {v:Value} {L:List (aB×aB)} (o:Own bV w 0 160 v L) (i:InR R v):
  ∃w',(Instr.mapUpdate 89 (.map (some p.m)) (.agg #[.int .i64 x, .int .i64 y]) v).run Tryz.prog w= .ok () w'∧Stand w' p R W H s l (uG G x y L) T∧Touch (fun k=>k=p.m) w w':=by
 have hbm:=h.bm
 have hmt:=h.mt
 obtain⟨f,mv,hf⟩:=h.gates
 obtain⟨w',hrun,mv',t⟩:=mv.put hx v
 have hR: ∀k,R k→ ¬k=p.m:=fun k hk e=>h.apart k hk (.inr (.inl e))
 refine⟨w',hrun,⟨h.good,h.blk.touch t (fun e=>hbm e),h.cost.touch t (fun k hk=>hR k (h.costR k hk)),h.costR,⟨_,mv',fun a b=> ?_⟩,?_,h.num,fun k hk=>Nat.lt_of_lt_of_le (h.lt k hk) t.size,h.apart⟩,t⟩
 ·unfold rQ uG
  by_cases hk:a=x∧b=y
  ·rw[if_pos hk,if_pos hk]
   exact .inr ⟨v,L,rfl,rfl,o.touch t (fun k hk=>hR k (i k hk)),i⟩
  ·rw[if_neg hk,if_neg hk]
   refine(hf a b).imp id ?_
   rintro⟨v,L,e1,e2,o,i⟩
   exact⟨v,L,e1,e2,o.touch t (fun k hk=>hR k (i k hk)),i⟩
 ·obtain⟨ts,h1,h2⟩:=h.tabs
  exact⟨ts,h1.touch t (fun k hk e=>by cases hk;exact hmt e.symm),h2.touch t hR⟩
theorem rO (w:World) (g k:Nat) (u v:Value):Touch (fun j=>j=g) w ((w.setCell ⟨g,k*2,none⟩ u).setCell ⟨g,k*2+1,none⟩ v):=
 ((Touch.refl (fun j=>j=g) w).setCell (p:=⟨g,k*2,none⟩) (.inl rfl) u).setCell (p:=⟨g,k*2+1,none⟩) (.inl rfl) v
theorem Stand.setTab (h:Stand w p R W H s l G T) {k:Nat} (hk:k<T.length) {q:Sl×Sl} {t:Tab} (hT:TabR R w q t):
  Stand ((w.setCell ⟨p.tb,k*2,none⟩ (slV q.1)).setCell ⟨p.tb,k*2+1,none⟩ (slV q.2)) p R W H s l G (T.set k t):=by
 have tt:=rO w p.tb k (slV q.1) (slV q.2)
 have hbt:=h.bt
 have hmt:=h.mt
 have hR: ∀j,R j→ ¬j=p.tb:=fun j hj e=>h.apart j hj (.inr (.inr e))
 obtain⟨ts,h1,h2,h3⟩:=h.tabs
 refine⟨h.good,by rw[List.length_set];exact h.blk.touch tt hbt,h.cost.touch tt (fun k hk=>hR k (h.costR k hk)),h.costR,h.gates.touch tt hmt hR,⟨ts.set k q,?_,?_,?_⟩,by rw[List.length_set];exact h.num,fun k hk=>Nat.lt_of_lt_of_le (h.lt k hk) tt.size,h.apart⟩
 ·rw[List.length_set]
  exact Own.turn (E:=tabE) h1 (by rw[h2];exact hk) q
 ·simp[h2]
 ·intro i a b ha hb
  rw[List.getElem?_set]at ha hb
  by_cases hi:k=i
  ·subst hi
   rw[if_pos rfl]at ha hb
   rw[if_pos (by rw[h2];exact hk)]at ha
   rw[if_pos hk]at hb
   cases ha
   cases hb
   exact hT.touch tt hR
  ·rw[if_neg hi]at ha hb
   exact(h3 i a b ha hb).touch tt hR
set_option maxRecDepth 100000 in
theorem aGo (h:Stand w p R W H s l G T) {b1 b2 tg tc N k:Nat} {tk:Bool} (h1:w.cell? ⟨b1,0,none⟩=some (.slice (some ⟨tg,0,none⟩) N tc)) (h2:w.cell? ⟨b2,0,none⟩=some (.pointer (some ⟨p.b,0,none⟩)))
  (hN:T.length=N) (hk:k<N) (hb:w.cell? ⟨tg,k,none⟩=some (.bool tk)) {a:Option Addr} {cs:List aB} (c:Nat) (hc:RowC w a cs) (hl:cs.length≤1000000) {t:Tab} (hT:T[k]? =some t):
  Calls Tryz.prog 79 (#[.int .i64 (k:Int), .slice a cs.length c]++ #[.pointer (some ⟨b1,0,none⟩), .pointer (some ⟨b2,0,none⟩)]) w fun e w'=>e= .returned (.bool (tk|| !(decide (cs=t.1))))∧Ext w w':=by
 have z1:=World.block_lt_of_cell? w _ h1
 have z2:=World.block_lt_of_cell? w _ h2
 have zb:=World.block_lt_of_cell? w _ hb
 simp only at z1 z2 zb
 have jk:(k:Int)<(N:Int):=by omega
 simp only[List.append_toArray]
 cases tk with
 |true=>
  clear h hc hT hl
  go_enter Tryz.func79,Tryz.ntmps79
  go_wp2_with fail
  go_ret
  exact⟨rfl,z_x⟩
 |false=>
  obtain⟨ts,t1,t2,t3⟩:=h.tabs
  obtain⟨q,hq⟩: ∃q,ts[k]? =some q:=⟨_,List.getElem?_eq_getElem (by omega)⟩
  have TA:=(t3 k q _ hq hT).1.1
  have CA:=(iK t1 hq).1
  obtain⟨⟨q1,q2,q3⟩,q4⟩:=q
  simp only[slV]at TA CA
  obtain⟨e1,rc⟩:=Reads.rowC TA.reads
  subst e1
  have HE:=aA (fun(w':World) (x:Ext w w')=>vT a q1 cs t.1 c q3 w' hl (hc.ext x) (rc.ext x))
  have B:=aA h.blk
  unfold cB at B
  rw[hN]at B
  have b7:=B.out.at 7 rfl
  have bz:=B.out.lt
  have ztb:=World.block_lt_of_cell? w _ CA
  simp only at ztb
  generalize t.1=cs2 at *
  generalize decide (cs=cs2)=dd at *
  obtain⟨n,hn⟩: ∃z,cs.length=z:=⟨_,rfl⟩
  obtain⟨m,hm⟩: ∃z,cs2.length=z:=⟨_,rfl⟩
  rw[hn,hm]at HE
  rw[hm]at CA
  rw[hn]
  clear h hc hT hl t1 t2 t3 hq TA rc hN hn hm
  go_enter Tryz.func79,Tryz.ntmps79
  go_wp2_with fail
  refine(HE.out _ z_x).mono ?_
  rintro e w1 ⟨rfl,x1⟩
  have X1:=aA x1
  clear x1
  go_wp2_with fail
  go_ret
  exact⟨by simp,Ext.trans z_x X1.out⟩
end
end Go.Proofs.YtaellcgglldjaaaGreat

namespace Go.Proofs.YtaellcgglldjaaaGreat
open Go.RowKit
def lC (W H s a b:Int):Prop:=0≤a∧b<cnt W H s∧a<b∧b∈aO W H s a
theorem aE9 (l:List Int) (W H s x y:Int):btw l W H s (min x y) (max x y)=btw l W H s x y:=by
 unfold btw eK
 rw[show min (min x y) (max x y)=min x y by omega,show max (min x y) (max x y)=max x y by omega]
theorem aA8 {W H s a b:Int} (hr:aL W H s=true) (h0:0≤a) (ha:a<cnt W H s) (hb:b∈aO W H s a):lC W H s (min a b) (max a b):=by
 have hrg:=iA hr h0 ha hb
 have hne:b≠a:=by
  rintro rfl
  have h:=gH (id:=b) hr
  rw[hasI_iff.2 hb]at h
  cases h
 by_cases hlt:a<b
 ·rw[show min a b=a by omega,show max a b=b by omega]
  exact⟨h0,hrg.2,hlt,hb⟩
 ·rw[show min a b=b by omega,show max a b=a by omega]
  obtain⟨h1,h2,h3,h4,h5,h6⟩:=rightB_true.1 hr
  have b1:=bR W s h5 h6 h1 h2
  have hp:Pair W H s b a:=by
   refine⟨hrg.1,ha,?_⟩
   rcases beside_mem.1 hb with⟨h,e⟩|⟨h,e⟩|⟨h,e⟩|⟨h,e⟩
   ·right;omega
   ·omega
   ·omega
   ·left
    refine⟨by omega,?_⟩
    have e1:=Int.emod_add_mul_ediv a (acr W s)
    have e2:b=(a% acr W s-1)+acr W s*(a/acr W s):=by omega
    have e3:=Int.emod_lt_of_pos a (show 0<acr W s by omega)
    rw[e2,Int.add_mul_emod_self_left,Int.emod_eq_of_lt (by omega) (by omega)]
    omega
  exact⟨hrg.1,ha,by omega,(hp.mem hr).1⟩
theorem yM {W H s a b:Int} (h:lC W H s a b):eV (aO W H s a) b=true:=hasI_iff.2 h.2.2.2
theorem aFn {W H s a b:Int} (hr:aL W H s=true) (h:lC W H s a b):a∈aO W H s b:=(((mA hr h.1 h.2.2.1 h.2.1).1 (yM h)).mem hr).2
def Inv (W H s:Int) (l:List Int) (tu:List Bool) (G0:Int→Int→Option (List (aB×aB))) (k:Nat) (G:Int→Int→Option (List (aB×aB))):Prop:=
 ∀a b,lC W H s a b→((tu.getD a.toNat false=true∧a<k)∨(tu.getD b.toNat false=true∧b<k)∨G0 a b=some (btw l W H s a b))→G a b=some (btw l W H s a b)
def InvJ (W H s:Int) (l:List Int) (G:Int→Int→Option (List (aB×aB))) (k:Nat) (L:List Int) (j:Nat):Prop:=
 ∀(i:Nat) (b:Int),i<j→L[i]? =some b→G (min (k:Int) b) (max (k:Int) b)=some (btw l W H s (k:Int) b)
section
variable {W H s:Int} {l:List Int} {tu:List Bool} {G0 G:Int→Int→Option (List (aB×aB))} {k:Nat} {L:List Int} {j:Nat}
theorem Inv.skip (h:Inv W H s l tu G0 k G) (ht:tu[k]? =some false):Inv W H s l tu G0 (k+1) G:=fun a b hn hc=>by
 have hf:tu.getD k false=false:=by simp[List.getD_eq_getElem?_getD,ht]
 refine h a b hn ?_
 obtain⟨n1,n2,n3,n4⟩:=hn
 rcases hc with⟨h1,h2⟩|⟨h1,h2⟩|h1
 ·refine .inl ⟨h1,?_⟩
  by_cases e:a=k
  ·subst e;simp only[Int.toNat_natCast]at h1;rw[hf]at h1;cases h1
  ·omega
 ·refine .inr (.inl ⟨h1,?_⟩)
  by_cases e:b=k
  ·subst e;simp only[Int.toNat_natCast]at h1;rw[hf]at h1;cases h1
  ·omega
 ·exact .inr (.inr h1)
theorem Inv.put (h:Inv W H s l tu G0 k G) (b:Int):Inv W H s l tu G0 k (uG G (min (k:Int) b) (max (k:Int) b) (btw l W H s (k:Int) b)):=fun a c hn hc=>by
 unfold uG
 by_cases e:a=min (k:Int) b∧c=max (k:Int) b
 ·rw[if_pos e,e.1,e.2,aE9]
 ·rw[if_neg e];exact h a c hn hc
theorem InvJ.put (h:InvJ W H s l G k L j) {b:Int} (hb:L[j]? =some b):InvJ W H s l (uG G (min (k:Int) b) (max (k:Int) b) (btw l W H s (k:Int) b)) k L (j+1):=fun i c hi hc=>by
 unfold uG
 by_cases e:min (k:Int) c=min (k:Int) b∧max (k:Int) c=max (k:Int) b
 ·rw[if_pos e]
  obtain rfl:c=b:=by omega
  rfl
 ·rw[if_neg e]
  refine h i c ?_ hc
  by_cases hij:i=j
  ·subst hij
   rw[hb]at hc
   cases hc
   exact absurd ⟨rfl,rfl⟩ e
  ·omega
theorem Inv.next (hr:aL W H s=true) (h:Inv W H s l tu G0 k G) (hj:InvJ W H s l G k (aO W H s (k:Int)) (aO W H s (k:Int)).length):Inv W H s l tu G0 (k+1) G:=fun a b hn hc=>by
 have hJ: ∀c,c∈aO W H s (k:Int)→G (min (k:Int) c) (max (k:Int) c)=some (btw l W H s (k:Int) c):=fun c hc=>by
  obtain⟨i,hi,rfl⟩:=List.getElem_of_mem hc
  exact hj i _ hi (List.getElem?_eq_getElem hi)
 have hlt:=hn.2.2.1
 by_cases ea:a=k
 ·have h2:=hJ b (by rw[←ea];exact hn.2.2.2)
  rw[←ea,show min a b=a by omega,show max a b=b by omega]at h2
  exact h2
 ·by_cases eb:b=k
  ·have h2:=hJ a (by rw[←eb];exact aFn hr hn)
   rw[←aE9,←eb,show min b a=a by omega,show max b a=b by omega]at h2
   exact h2
  ·refine h a b hn ?_
   rcases hc with⟨h1,h2⟩|⟨h1,h2⟩|h1
   ·exact .inl ⟨h1,by omega⟩
   ·exact .inr (.inl ⟨h1,by omega⟩)
   ·exact .inr (.inr h1)
theorem Inv.full {n:Nat} (h:Inv W H s l tu G0 n G) (hn:(n:Int)=cnt W H s) (hG: ∀a b,lC W H s a b→tu.getD a.toNat false=true∨tu.getD b.toNat false=true∨G0 a b=some (btw l W H s a b)):wF W H s l G:=fun a b h0 hb hlt hm=>by
 have hnr:lC W H s a b:=⟨h0,hb,hlt,hm⟩
 refine h a b hnr ?_
 rcases hG a b hnr with h1|h1|h1
 ·exact .inl ⟨h1,by omega⟩
 ·exact .inr (.inl ⟨h1,by omega⟩)
 ·exact .inr (.inr h1)
end
end Go.Proofs.YtaellcgglldjaaaGreat

