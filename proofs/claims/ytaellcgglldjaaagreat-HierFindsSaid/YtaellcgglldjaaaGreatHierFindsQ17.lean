/- Part of a proof: RedG RedC HierQ. -/
import Derived.Test.YtaellcgglldjaaaGreatHierFindsQ16
import Derived.Test.YtaellcgglldjaaaGreatHierFindsQ11
set_option linter.all false
set_option linter.unusedVariables false
set_option linter.unusedSimpArgs false
namespace Go.Proofs.YtaellcgglldjaaaGreat
open Go.RowKit
def gG (l:List Int) (W H s a:Int) (L:List Int) (j:Nat):List (aB×aB):=((L.take j).filter (fun b=>decide (a<b))).flatMap (btw l W H s a)
theorem aEk {l:List Int} {W H s a b:Int} {L:List Int} {j:Nat} (hb:L[j]? =some b) (h: ¬a<b):gG l W H s a L (j+1)=gG l W H s a L j:=by
 unfold gG
 rw[List.take_add_one,hb,List.filter_append]
 simp[h]
theorem aEl {l:List Int} {W H s a b:Int} {L:List Int} {j:Nat} (hb:L[j]? =some b) (h:a<b):gG l W H s a L (j+1)=gG l W H s a L j++btw l W H s a b:=by
 unfold gG
 rw[List.take_add_one,hb,List.filter_append,List.flatMap_append]
 simp[h]
theorem aH9 {l:List Int} {W H s a:Int} (hr:aK W H s=true) (h0:0≤a) (ha:a<cnt W H s) {L:List Int} (hL:L.length≤4) (j:Nat):(gG l W H s a L j).length≤64:=by
 have h1:=zX (l:=l) hr h0 ha ((L.take j).filter (fun b=>decide (a<b))) (fun b hb=>by have:=(List.mem_filter.1 hb).2;simp at this;omega)
 have h2:((L.take j).filter (fun b=>decide (a<b))).length≤4:=Nat.le_trans (List.length_filter_le _ _) (by simp;omega)
 unfold gG
 omega
theorem aIh {l:List Int} {W H s:Int} (hr:aK W H s=true) {n:Nat} (hn:(n:Int)≤cnt W H s):(mE (btw l W H s) W H s n).length≤n*64:=by
 rw[aCf hr (l:=l) (fun a b _ _ _ _=>rfl)]
 exact aD6 hr hn
def vF (w:World) (L:List (aB×aB)) (e:Ending) (w':World):Prop:= ∃v,e= .returned v∧Ext w w'∧Own aT w' w.heap.size 160 v L
set_option maxRecDepth 100000 in
set_option maxHeartbeats 2000000 in
theorem rR {w:World} {p:Spot} {R:Nat→Prop} {W H s:Int} {l:List Int} {G:Int→Int→Option (List (aB×aB))} {T:List Tab} (h:Stand w p R W H s l G T) (hG:xN W H s l G):
  Calls Tryz.prog 29 #[.pointer (some ⟨p.b,0,none⟩)] w (vF w (aD W H s l)):=by
 have ht:=h.good.right
 have b0:=h.good.cnt
 obtain⟨N,hN⟩: ∃N:Nat,(cnt W H s).toNat=N:=⟨_,rfl⟩
 have HN:=aA (show cnt W H s=(N:Int) by omega)
 have hN1:1≤N:=by omega
 have hN2:N≤65536:=by omega
 have HE:=aA (show aD W H s l=mE (btw l W H s) W H s N by unfold aD;rw[aCf ht (l:=l) (fun a b _ _ _ _=>rfl),hN])
 have HGT:=aA h.gates
 have HGF:=aA hG
 have B:=aA h.blk
 unfold cU at B
 rw[HE.out]
 clear b0 hN h hG
 have b0:=B.out.at 0 rfl;have b1:=B.out.at 1 rfl;have b2:=B.out.at 2 rfl;have b3:=B.out.at 3 rfl;have b4:=B.out.at 4 rfl;have b5:=B.out.at 5 rfl;have b6:=B.out.at 6 rfl;have b7:=B.out.at 7 rfl;have bz:=B.out.lt
 go_enter Tryz.func29,Tryz.ntmps29
 go_wp2_with fail
 refine(fB W H s _ ht).mono ?_
 rintro e w1 ⟨rfl,x1⟩
 rw[HN.out]
 have X1:=aA x1
 clear x1 b0 b1 b2 b3 b4 b5 b6 b7 bz
 go_wp2_with fail
 go_loopw [3,16] (fun o i wr=> ∃k:Nat,k≤N∧i= .int .i64 (k:Int)∧Ext w wr∧Own aT wr w.heap.size 160 o (mE (btw l W H s) W H s k)) (fun _ i _=>N-(intOf i).toNat)
 case atStart=>exact⟨0,Nat.zero_le _,rfl,X1.out,Own.nil _ _ _ _⟩
 obtain⟨k,hk,rfl,hx,ho⟩:=hrel
 have HX:=aA hx
 have HO:=aA ho
 have hz:=hx.size
 clear hx ho X1
 by_cases hlt:k<N
 ·have BPr:=aA (B.out.ext HX.out)
  have p3:=BPr.out.at 3 rfl
  have p4:=BPr.out.at 4 rfl
  have p5:=BPr.out.at 5 rfl
  have pz:=BPr.out.lt
  have hkc:(k:Int)<cnt W H s:=by rw[HN.out];omega
  have HKC:=aA hkc
  have HLn:=aA (aIh (l:=l) ht (n:=k) (by omega))
  clear hkc
  go_wp2_with fail
  refine(oM W H s (k:Int) _ ht (by omega) HKC.out).mono ?_
  rintro e w3 ⟨v3,rfl,x3,o3⟩
  obtain⟨a3,c3,rfl⟩:=o3.slice
  have hm4:=kO W H s (k:Int)
  obtain⟨m,hmm⟩: ∃m,(aQ W H s (k:Int)).length=m:=⟨_,rfl⟩
  rw[hmm]at o3 hm4⊢
  have HMM:=aA hmm
  have O3:=aA o3
  have X3:=aA x3
  clear hmm o3 x3
  go_wp2_with fail
  refine(aI0 O3.out (by rw[HMM.out];omega)).mono ?_
  rintro e w4 ⟨rfl,o4,t4⟩
  have X4:=aA (X3.out.of_below (t4.to_below X3.out.size (fun q hq=>(aF O3.out hq).1)) (Nat.le_refl _))
  have O4:=aA o4
  have HXX:=aA (HX.out.trans X4.out)
  have HOO:=aA (HO.out.ext X4.out)
  have HLm:=aA (show(cG (aQ W H s (k:Int))).length=m by rw[nU,HMM.out])
  have HLi:=aA (fun b (hb:b∈cG (aQ W H s (k:Int)))=>jG ht (by omega) HKC.out ((dO _).mem_iff.1 hb))
  have HLh:=aA (fun b (hb:b∈cG (aQ W H s (k:Int)))=>(dO _).mem_iff.1 hb)
  have HRow:=aA (show aAb (btw l W H s) W H s (k:Int)=gG l W H s (k:Int) (cG (aQ W H s (k:Int))) m by unfold gG aAb;rw[List.take_of_length_le (by rw[HLm.out];exact Nat.le_refl _)])
  generalize cG (aQ W H s (k:Int))=L at *
  clear o4 t4 O3 X3 HO HX BPr p3 p4 p5 pz
  go_wp2_with fail
  go_loopw [3,32] (fun o i wy=> ∃j:Nat,j≤m∧i= .int .i64 (j:Int)∧Ext w wy∧Own aT wy w.heap.size 160 o (mE (btw l W H s) W H s k++gG l W H s (k:Int) L j)∧Own intE wy w.heap.size 3 (.slice a3 m c3) L) (fun _ i _=>m-(intOf i).toNat)
  case atStart=>exact⟨0,Nat.zero_le _,rfl,HXX.out,by simpa [gG] using HOO.out,O4.out.lower hz⟩
  obtain⟨j,hj,rfl,hx,ho,hn⟩:=hrel
  have HX:=aA hx
  have HO:=aA ho
  have HNr:=aA hn
  have hzz:=hx.size
  clear hx ho hn HXX HOO O4 X4
  by_cases hltj:j<m
  ·obtain⟨b,hb⟩: ∃b,L[j]? =some b:=⟨_,zG (by rw[HLm.out];exact hltj)⟩
   have hbm:=List.mem_of_getElem? hb
   have hb1:=HLi.out b hbm
   have HH:=aA (HLh.out b hbm)
   obtain⟨g,rfl,cg,zg⟩:=tR HNr.out hb
   by_cases hbk:(k:Int)<b
   ·have HP:=aA (aEl (l:=l) (W:=W) (H:=H) (s:=s) hb hbk)
    have HPl:=aA (aH9 (l:=l) ht (by omega) HKC.out (L:=L) (by rw[HLm.out];omega) j)
    have HBl:=aA (aCk (l:=l) ht (x:=(k:Int)) (y:=b) (by omega) (by have:=HKC.out;omega))
    have hgf:=HGF.out (k:Int) b (by omega) hb1.2 hbk HH.out
    obtain⟨f,mv,hf⟩:=HGT.out
    rcases hf (k:Int) b with⟨_,e2⟩|⟨v,L2,e1,e2,ov,_⟩
    ·rw[hgf]at e2;cases e2
    obtain rfl:btw l W H s (k:Int) b=L2:=by rw[hgf]at e2;exact Option.some.inj e2
    have hlook:=(mv.ext HX.out).get e1
    have OV:=aA (ov.ext HX.out)
    have BPr:=aA (B.out.ext HX.out)
    have p6:=BPr.out.at 6 rfl
    have pz:=BPr.out.lt
    clear hb hbm hgf mv hf e1 e2 ov
    go_wp2_with (at_builtin;refine cO aT nV rfl _ _ rfl w.heap.size _ _ (btw l W H s (k:Int) b) rfl HO.out _ rfl OV.out.reads (by have:=HLn.out;have:=HPl.out;have:=HBl.out;rw[List.length_append];omega) (by have:=HLn.out;have:=HPl.out;have:=HBl.out;rw[List.length_append];omega) (by omega) ?_;intro v9 w9 o9 t9 l9;obtain⟨a9,c9,rfl⟩:=o9.slice;have O9:=aA o9;have T9:=aA t9;clear o9 t9 l9)
    go_roundw
    case rel=>
     refine⟨j+1,by omega,by go_num,HX.out.of_below (T9.out.to_below (by omega) (fun q hq=>(aF HO.out hq).1)) (Nat.le_refl _),?_,HNr.out.touch T9.out (fun q hq hs=>aBs HO.out HNr.out (by decide) hs hq)⟩
     have h:=O9.out
     rw[List.append_assoc,←HP.out]at h
     rw[show(mE (btw l W H s) W H s k).length+((gG l W H s (k:Int) L j).length+(btw l W H s (k:Int) b).length)=(mE (btw l W H s) W H s k++gG l W H s (k:Int) L (j+1)).length by rw[HP.out];simp]
     exact h
    simp[intOf];omega
   have HP:=aA (aEk (l:=l) (W:=W) (H:=H) (s:=s) hb hbk)
   clear hb hbm
   go_wp2
   go_roundw
   case rel=>exact⟨j+1,by omega,by go_num,HX.out,by rw[HP.out];exact HO.out,HNr.out⟩
   simp[intOf];omega
  obtain rfl:j=m:=by omega
  go_wp2
  go_roundw
  case rel=>exact⟨k+1,by omega,by go_num,HX.out,by rw[aFf,HRow.out];exact HO.out⟩
  simp[intOf];omega
 obtain rfl:k=N:=by omega
 go_wp2
 obtain⟨ao,co,rfl⟩:=HO.out.slice
 go_ret
 exact⟨_,rfl,HX.out,HO.out⟩
end Go.Proofs.YtaellcgglldjaaaGreat

namespace Go.Proofs.YtaellcgglldjaaaGreat
open Go.RowKit
theorem pT {W H s id:Int} {l:List aB}: ∀{n:Nat},(∀k,k<n→cP W H s id l k=0)→cI W H s id l n=0
 |0,_=>rfl
 |n+1,h=>nO (pT fun k hk=>h k (by omega)) (h n (by omega))
theorem aCl {W H s id:Int} {l:List Int} (g:Good W H s l) (hi:0≤id∧id<cnt W H s) {c:aB} (hc:c∈bR W H s l id):fZ W H s id c=true:=by
 obtain⟨h1,h2⟩:=((gP g.right hi.1 hi.2).1 hc).1
 unfold fZ
 simp[h1,h2]
theorem aIo {W H s id:Int} {l:List Int} (g:Good W H s l) (hi:0≤id∧id<cnt W H s): ∀q∈bR W H s l id,InI q.1∧InI q.2:=fun q hq=>by
 obtain⟨h1,_⟩:=((gP g.right hi.1 hi.2).1 hq).1
 have:=inB_true.1 h1
 obtain⟨r1,r2,r3,r4,r5,r6⟩:=rightB_true.1 g.right
 unfold InI
 omega
theorem aL5 {W H s id:Int} {l:List Int} (g:Good W H s l) (hi:0≤id∧id<cnt W H s):dM W H l.length W H s id (bR W H s l id)=0:=by
 refine innerE_ok.2 ⟨g.ok,rfl,rfl,g.right,hi,pT fun k hk=> ?_⟩
 have hin:=aCl g hi (List.getElem_mem hk)
 have hst:=lI W H s id (aD W H s l)
 have hst':(bR W H s l id).Pairwise ltC:=hst
 unfold cP
 have e:(bR W H s l id).getD k (0,0)=(bR W H s l id)[k]:=by simp[List.getD_eq_getElem?_getD,hk]
 rw[e,if_neg (by rw[hin];simp)]
 rw[if_neg]
 rintro⟨h0,hr⟩
 have e2:(bR W H s l id).getD (k-1) (0,0)=(bR W H s l id)[k-1]:=by
  have:k-1<(bR W H s l id).length:=by omega
  simp[List.getD_eq_getElem?_getD,this]
 rw[e2]at hr
 have hlt:=List.pairwise_iff_getElem.1 hst' (k-1) k (by omega) hk (by omega)
 unfold ltC at hlt
 unfold nG at hr
 simp at hr
 omega
theorem sC {W H s id:Int} {l:List Int} (g:Good W H s l) (hi:0≤id∧id<cnt W H s):(bR W H s l id).length≤256:=tA g.right hi.1 hi.2 _
def boolE:Enc Bool:=⟨1,fun x=>[.bool x],fun _=>rfl,fun _ u hu=>by simp at hu;subst hu;rfl⟩
theorem T_bools:cH Tryz.prog 96 4 (.bool false) 1 1:=⟨Tryz.underlying96,by kernel_rfl,rfl,by decide⟩
theorem rQ {w:World} {base n c g:Nat} {e:TypeId} {l:List Bool} {j:Nat} {b:Bool} (h:Own boolE w base e (.slice (some ⟨g,0,none⟩) n c) l) (hj:l[j]? =some b):w.cell? ⟨g,j,none⟩=some (.bool b):=by
 obtain⟨hjl,rfl⟩:=zJ hj
 obtain⟨a',c',en⟩:=h.slice
 have en':n=l.length:=by injection en
 clear en
 subst en'
 have h':w.ownsRow base e 1 (.slice (some ⟨g,0,none⟩) l.length c) l.length (l.flatMap boolE.cells):=h
 have f0:=cM boolE l j _ (zG hjl) 0 (.bool l[j]) rfl
 have e0:(l.flatMap boolE.cells)[j]? =some (.bool l[j]):=by
  have e:j*boolE.size+0=j:=by show j*1+0=j;omega
  rwa [e]at f0
 have c0:=World.ownsRow.cellAt (size:=1) h' j (by omega)
 rw[e0]at c0
 exact c0
def vB (G:Int→Int→Option (List (aB×aB))) (x y:Int) (L:List (aB×aB)) (a b:Int):Option (List (aB×aB)):=if a=x∧b=y then some L else G a b
section
variable {w:World} {p:Spot} {R:Nat→Prop} {W H s:Int} {l:List Int} {G:Int→Int→Option (List (aB×aB))} {T:List Tab}
theorem Stand.put (h:Stand w p R W H s l G T) {x y:Int} (hx:Rg x y) {v:Value} {L:List (aB×aB)} (o:Own aT w 0 160 v L) (i:InR R v):
  ∃w',(Instr.mapUpdate 89 (.map (some p.m)) (.agg #[.int .i64 x, .int .i64 y]) v).run Tryz.prog w= .ok () w'∧Stand w' p R W H s l (vB G x y L) T∧Touch (fun k=>k=p.m) w w':=by
 have hbm:=h.bm
 have hmt:=h.mt
 obtain⟨f,mv,hf⟩:=h.gates
 obtain⟨w',hrun,mv',t⟩:=mv.put hx v
 have hR: ∀k,R k→ ¬k=p.m:=fun k hk e=>h.apart k hk (.inr (.inl e))
 refine⟨w',hrun,⟨h.good,h.blk.touch t (fun e=>hbm e),h.cost.touch t (fun k hk=>hR k (h.costR k hk)),h.costR,⟨_,mv',fun a b=> ?_⟩,?_,h.num,fun k hk=>Nat.lt_of_lt_of_le (h.lt k hk) t.size,h.apart⟩,t⟩
 ·unfold sR vB
  by_cases hk:a=x∧b=y
  ·rw[if_pos hk,if_pos hk]
   exact .inr ⟨v,L,rfl,rfl,o.touch t (fun k hk=>hR k (i k hk)),i⟩
  rw[if_neg hk,if_neg hk]
  refine(hf a b).imp id ?_
  rintro⟨v,L,e1,e2,o,i⟩
  exact⟨v,L,e1,e2,o.touch t (fun k hk=>hR k (i k hk)),i⟩
 obtain⟨ts,h1,h2⟩:=h.tabs
 exact⟨ts,h1.touch t (fun k hk e=>by cases hk;exact hmt e.symm),h2.touch t hR⟩
theorem sP (w:World) (g k:Nat) (u v:Value):Touch (fun j=>j=g) w ((w.setCell ⟨g,k*2,none⟩ u).setCell ⟨g,k*2+1,none⟩ v):=
 ((Touch.refl (fun j=>j=g) w).setCell (p:=⟨g,k*2,none⟩) (.inl rfl) u).setCell (p:=⟨g,k*2+1,none⟩) (.inl rfl) v
theorem Stand.setTab (h:Stand w p R W H s l G T) {k:Nat} (hk:k<T.length) {q:Sl×Sl} {t:Tab} (hT:TabR R w q t):
  Stand ((w.setCell ⟨p.tb,k*2,none⟩ (slV q.1)).setCell ⟨p.tb,k*2+1,none⟩ (slV q.2)) p R W H s l G (T.set k t):=by
 have tt:=sP w p.tb k (slV q.1) (slV q.2)
 have hbt:=h.bt
 have hmt:=h.mt
 have hR: ∀j,R j→ ¬j=p.tb:=fun j hj e=>h.apart j hj (.inr (.inr e))
 obtain⟨ts,h1,h2,h3⟩:=h.tabs
 refine⟨h.good,by rw[List.length_set];exact h.blk.touch tt hbt,h.cost.touch tt (fun k hk=>hR k (h.costR k hk)),h.costR,h.gates.touch tt hmt hR,⟨ts.set k q,?_,?_,?_⟩,by rw[List.length_set];exact h.num,fun k hk=>Nat.lt_of_lt_of_le (h.lt k hk) tt.size,h.apart⟩
 ·rw[List.length_set]
  exact Own.turn (E:=tabE) h1 (by rw[h2];exact hk) q
 ·simp[h2]
 intro i a b ha hb
 rw[List.getElem?_set]at ha hb
 by_cases hi:k=i
 ·subst hi
  rw[if_pos rfl]at ha hb
  rw[if_pos (by rw[h2];exact hk)]at ha
  rw[if_pos hk]at hb
  cases ha
  cases hb
  exact hT.touch tt hR
 rw[if_neg hi]at ha hb
 exact(h3 i a b ha hb).touch tt hR
set_option maxRecDepth 100000 in
theorem aI2 (h:Stand w p R W H s l G T) {b1 b2 tg tc N k:Nat} {tk:Bool} (h1:w.cell? ⟨b1,0,none⟩=some (.slice (some ⟨tg,0,none⟩) N tc)) (h2:w.cell? ⟨b2,0,none⟩=some (.pointer (some ⟨p.b,0,none⟩)))
  (hN:T.length=N) (hk:k<N) (hb:w.cell? ⟨tg,k,none⟩=some (.bool tk)) {a:Option Addr} {cs:List aB} (c:Nat) (hc:RowC w a cs) (hl:cs.length≤1000000) {t:Tab} (hT:T[k]? =some t):
  Calls Tryz.prog 79 (#[.int .i64 (k:Int), .slice a cs.length c]++ #[.pointer (some ⟨b1,0,none⟩), .pointer (some ⟨b2,0,none⟩)]) w fun e w'=>e= .returned (.bool (tk|| !(decide (cs=t.1))))∧Ext w w':=by
 have z1:=World.block_lt_of_cell? w _ h1
 have z2:=World.block_lt_of_cell? w _ h2
 have zb:=World.block_lt_of_cell? w _ hb
 simp only at z1 z2 zb
 have jk:(k:Int)<(N:Int):=by omega
 simp only[List.append_toArray]
 cases tk with
 |true=>
  clear h hc hT hl
  go_enter Tryz.func79,Tryz.ntmps79
  go_wp2_with fail
  go_ret
  exact⟨rfl,z_x⟩
 |false=>
  obtain⟨ts,t1,t2,t3⟩:=h.tabs
  obtain⟨q,hq⟩: ∃q,ts[k]? =some q:=⟨_,zG (by omega)⟩
  have TA:=(t3 k q _ hq hT).1.1
  have CA:=(jU t1 hq).1
  obtain⟨⟨q1,q2,q3⟩,q4⟩:=q
  simp only[slV]at TA CA
  obtain⟨e1,rc⟩:=Reads.rowC TA.reads
  subst e1
  have HE:=aA (fun(w':World) (x:Ext w w')=>xC a q1 cs t.1 c q3 w' hl (hc.ext x) (rc.ext x))
  have B:=aA h.blk
  unfold cU at B
  rw[hN]at B
  have b7:=B.out.at 7 rfl
  have bz:=B.out.lt
  have ztb:=World.block_lt_of_cell? w _ CA
  simp only at ztb
  generalize t.1=cs2 at *
  generalize decide (cs=cs2)=dd at *
  obtain⟨n,hn⟩: ∃z,cs.length=z:=⟨_,rfl⟩
  obtain⟨m,hm⟩: ∃z,cs2.length=z:=⟨_,rfl⟩
  rw[hn,hm]at HE
  rw[hm]at CA
  rw[hn]
  clear h hc hT hl t1 t2 t3 hq TA rc hN hn hm
  go_enter Tryz.func79,Tryz.ntmps79
  go_wp2_with fail
  refine(HE.out _ z_x).mono ?_
  rintro e w1 ⟨rfl,x1⟩
  have X1:=aA x1
  clear x1
  go_wp2_with fail
  go_ret
  exact⟨by simp,Ext.trans z_x X1.out⟩
end
end Go.Proofs.YtaellcgglldjaaaGreat

namespace Go.Proofs.YtaellcgglldjaaaGreat
open Go.RowKit
theorem aMe {a b:aB} (h:ltC a b):a≠b:=by
 rintro rfl
 unfold ltC at h
 omega
theorem mO {l:List aB} (h:l.Pairwise ltC):l.Nodup:=h.imp aMe
theorem uY {α:Type} [DecidableEq α]: ∀{l l':List α},l.Nodup→(∀c∈l,c∈l')→l.length≤l'.length
 |[],_,_,_=>Nat.zero_le _
 |a::l,l',hn,hs=>by
  obtain⟨h1,h2⟩:=List.nodup_cons.1 hn
  have ha:=hs a (by simp)
  have h3:l.length≤(l'.erase a).length:=uY h2 (fun c hc=>(List.mem_erase_of_ne (fun e=>by rw[e]at hc;exact h1 hc)).2 (hs c (by simp[hc])))
  rw[List.length_erase_of_mem ha]at h3
  have:=List.length_pos_of_mem ha
  rw[List.length_cons]
  omega
theorem aLw {α:Type} [DecidableEq α] {l l':List α} (hn:l.Nodup) (hs: ∀c∈l,c∈l') (hl:l'.length≤l.length): ∀c∈l',c∈l:=fun c hc=>by
 refine Classical.byContradiction fun h=> ?_
 have h1:=uY (l:=c::l) (List.nodup_cons.2 ⟨h,hn⟩) (fun x hx=>by
  rcases List.mem_cons.1 hx with rfl|hx
  ·exact hc
  exact hs x hx)
 rw[List.length_cons]at h1
 omega
def inC (W H s:Int) (G:List (aB×aB)) (f t:aB) (id:Int):List aB:=(aN W H G f t).filter fun c=>decide (ofN W s c.1 c.2=id)
theorem lX (W H s:Int) (G:List (aB×aB)) (f t:aB) (id:Int):(inC W H s G f t id).Pairwise ltC:=(lL W H G f t).filter _
theorem oD {W H s:Int} (hm:bW W H=true) {G:List (aB×aB)} {f t:aB} {id:Int} {c:aB}:c∈inC W H s G f t id↔(inB W H c.1 c.2=true∧ofN W s c.1 c.2=id)∧(c=f∨c=t∨gIn G c=true):=by
 unfold inC
 rw[List.mem_filter,nodesL_mem,decide_eq_true_eq]
 have h:=mayB_true.1 hm
 constructor
 ·rintro⟨⟨h1,h2⟩,h3⟩
  exact⟨⟨inB_true.2 (by omega),h3⟩,h2⟩
 rintro⟨⟨h1,h3⟩,h2⟩
 have:=inB_true.1 h1
 exact⟨⟨by omega,h2⟩,h3⟩
theorem aMc {W H s:Int} {l:List Int} (g:Good W H s l) {f t:aB} {id:Int} (hid:0≤id∧id<cnt W H s) (hf:inB W H f.1 f.2=true) (ht:inB W H t.1 t.2=true) {L:List aB} (hs:L.Pairwise ltC)
  (hm: ∀c,c∈L↔c∈bR W H s l id∨(c=f∧ofN W s f.1 f.2=id)∨(c=t∧ofN W s t.1 t.2=id)):L=inC W H s (aD W H s l) f t id:=by
 refine iL hs (lX _ _ _ _ _ _ _) fun c=> ?_
 rw[hm,oD (checkE_ok.1 g.ok).1]
 unfold bR
 rw[gP g.right hid.1 hid.2]
 unfold inK
 constructor
 ·rintro(⟨⟨h1,h2⟩,h3⟩|⟨rfl,h⟩|⟨rfl,h⟩)
  ·exact⟨⟨h1,h2⟩, .inr (.inr h3)⟩
  ·exact⟨⟨hf,h⟩, .inl rfl⟩
  exact⟨⟨ht,h⟩, .inr (.inl rfl)⟩
 rintro⟨⟨h1,h2⟩,rfl|rfl|h3⟩
 ·exact .inr (.inl ⟨rfl,h2⟩)
 ·exact .inr (.inr ⟨rfl,h2⟩)
 exact .inl ⟨⟨h1,h2⟩,h3⟩
theorem aCm {W H s:Int} {l:List Int} (g:Good W H s l) {f t:aB} {id:Int} (hid:0≤id∧id<cnt W H s): ∀c∈bR W H s l id,c∈inC W H s (aD W H s l) f t id:=fun c hc=>by
 unfold bR at hc
 rw[gP g.right hid.1 hid.2]at hc
 exact(oD (checkE_ok.1 g.ok).1).2 ⟨hc.1, .inr (.inr hc.2)⟩
theorem aM6 {W H s:Int} {l:List Int} (g:Good W H s l) {f t:aB} {id:Int} (hid:0≤id∧id<cnt W H s) (hl:(inC W H s (aD W H s l) f t id).length=(bR W H s l id).length):inC W H s (aD W H s l) f t id=bR W H s l id:=by
 have hc:(bR W H s l id).Pairwise ltC:=lI _ _ _ _ _
 exact iL (lX _ _ _ _ _ _ _) hc fun c=>⟨aLw (mO hc) (aCm g hid) (by omega) c,aCm g hid c⟩
theorem uQ {W H s:Int} {l:List Int} (g:Good W H s l) {f t:aB} {id:Int} (hid:0≤id∧id<cnt W H s):(inC W H s (aD W H s l) f t id).length≤258:=by
 have h1:=sC (l:=l) g hid
 have h2:=uY (l:=inC W H s (aD W H s l) f t id) (l':=f::t::bR W H s l id) (mO (lX _ _ _ _ _ _ _)) (fun c hc=>by
  obtain⟨⟨h1,h2⟩,h3⟩:=(oD (checkE_ok.1 g.ok).1).1 hc
  rcases h3 with rfl|rfl|h3
  ·simp
  ·simp
  have:c∈bR W H s l id:=by unfold bR;rw[gP g.right hid.1 hid.2];exact⟨⟨h1,h2⟩,h3⟩
  simp[this])
 simp only[List.length_cons]at h2
 omega
theorem aMd {W H s:Int} {l:List Int} (g:Good W H s l) {f t:aB} {id:Int} (hid:0≤id∧id<cnt W H s):dM W H l.length W H s id (inC W H s (aD W H s l) f t id)=0:=by
 refine innerE_ok.2 ⟨g.ok,rfl,rfl,g.right,hid,pT fun k hk=> ?_⟩
 have hst:=lX W H s (aD W H s l) f t id
 have hmem: ∀c∈inC W H s (aD W H s l) f t id,fZ W H s id c=true:=fun c hc=>by
  obtain⟨⟨h1,h2⟩,_⟩:=(oD (checkE_ok.1 g.ok).1).1 hc
  unfold fZ
  rw[h1,h2]
  simp
 generalize inC W H s (aD W H s l) f t id=C at *
 have hin:=hmem _ (List.getElem_mem hk)
 unfold cP
 have e:C.getD k (0,0)=C[k]:=by simp[List.getD_eq_getElem?_getD,hk]
 rw[e,if_neg (by rw[hin];simp)]
 rw[if_neg]
 rintro⟨h0,hr⟩
 have e2:C.getD (k-1) (0,0)=C[k-1]:=by
  have:k-1<C.length:=by omega
  simp[List.getD_eq_getElem?_getD,this]
 rw[e2]at hr
 have hlt:=List.pairwise_iff_getElem.1 hst (k-1) k (by omega) hk (by omega)
 unfold ltC at hlt
 unfold nG at hr
 simp at hr
 omega
theorem yO {W H s:Int} {l:List Int} {a:aB} (L:fE W H s (ofN W s a.1 a.2) l) (cs:List aB):fS L cs a=cs.map (cA W H s l a):=by
 unfold fS
 refine List.map_congr_left fun q _=> ?_
 unfold cA
 rw[dif_pos L]
end Go.Proofs.YtaellcgglldjaaaGreat

