/- Part of a proof: RefL FarR. -/
import Derived.Test.YtaellcgglldjaaaGreatHierFindsQ07
import Derived.Test.YtaellcgglldjaaaGreatHierFindsQ20
import Derived.Test.YtaellcgglldjaaaGreatHierFindsQ15
import Derived.Deep.CutBlock
import Derived.Test.YtaellcgglldjaaaGreatHierFindsQ10
set_option linter.all false
set_option linter.unusedVariables false
set_option linter.unusedSimpArgs false
namespace Go.Proofs.YtaellcgglldjaaaGreat
open Go.RowKit
theorem pO (bx byy bw:Int) (j:Nat):((List.range (j+1)).flatMap fun j:Nat=>fI bx bw (byy+(j:Int)))=((List.range j).flatMap fun j:Nat=>fI bx bw (byy+(j:Int)))++fI bx bw (byy+(j:Int)):=by
 rw[List.range_succ,List.flatMap_append];simp
def fU (bx byy bw:Int) (L:List (aB×aB)) (j:Nat):List aB:=((List.range j).flatMap fun j:Nat=>fI bx bw (byy+(j:Int))).filter (gIn L)
def eO (bx y:Int) (L:List (aB×aB)) (i:Nat):List aB:=((List.range i).map fun i:Nat=>(bx+(i:Int),y)).filter (gIn L)
theorem aBi (bx y:Int) (L:List (aB×aB)) (i:Nat):eO bx y L (i+1)=eO bx y L i++if gIn L (bx+(i:Int),y)=true then[(bx+(i:Int),y)] else[]:=by
 unfold eO
 rw[List.range_succ,List.map_append,List.filter_append]
 congr 1
 by_cases h:gIn L (bx+(i:Int),y)=true
 ·simp[h]
 simp[h]
theorem rJ (bx byy bw:Int) (L:List (aB×aB)) (j:Nat):fU bx byy bw L (j+1)=fU bx byy bw L j++eO bx (byy+(j:Int)) L bw.toNat:=by
 unfold fU eO
 rw[pO,List.filter_append]
 rfl
theorem tH (bx y:Int) (L:List (aB×aB)) (i:Nat):(eO bx y L i).length≤i:=by
 unfold eO
 exact Nat.le_trans (List.length_filter_le _ _) (by simp)
theorem aDv (bx byy bw:Int) (L:List (aB×aB)) (j:Nat):(fU bx byy bw L j).length≤j*bw.toNat:=by
 induction j with
 |zero=>simp[fU]
 |succ j ih=>
  rw[rJ,List.length_append,Nat.add_mul,Nat.one_mul]
  have:=tH bx (byy+(j:Int)) L bw.toNat
  omega
theorem vU {L:List (aB×aB)} {k:Nat} {g:aB×aB} (hg:L[k]? =some g) (c:aB):gIn (L.take (k+1)) c=(gIn (L.take k) c||(cK g.1 c||cK g.2 c)):=by
 unfold gIn
 rw[List.take_add_one,hg,List.any_append]
 simp
def xU (w:World) (L:List aB) (e:Ending) (w':World):Prop:= ∃v,e= .returned v∧Ext w w'∧Own cellE w' w.heap.size 28 v L
set_option maxRecDepth 100000 in
set_option maxHeartbeats 2000000 in
theorem aA1 (L:List (aB×aB)) (v:Value) (bx byy bw bh:Int) (w:World) (hl:L.length≤50000) (hL:Reads aT w v L) (b1:0≤bx∧bx≤1000) (b2:0≤byy∧byy≤1000) (b3:0≤bw∧bw≤1000) (b4:0≤bh∧bh≤1000):
  Calls Tryz.prog 49 #[v, .agg #[.int .i64 bx, .int .i64 byy, .int .i64 bw, .int .i64 bh]] w (xU w (mG bx byy bw bh L)):=by
 have HF:=aA (show mG bx byy bw bh L=fU bx byy bw L bh.toNat from rfl)
 obtain⟨bx0,bx1⟩:=b1
 obtain⟨by0,by1⟩:=b2
 obtain⟨bw0,bw1⟩:=b3
 obtain⟨bh0,bh1⟩:=b4
 obtain⟨m,hm⟩: ∃m:Nat,bw=(m:Int):=⟨bw.toNat,by omega⟩
 obtain⟨n,hn⟩: ∃n:Nat,bh=(n:Int):=⟨bh.toNat,by omega⟩
 subst hm hn
 have hm1:m≤1000:=by omega
 have hn1:n≤1000:=by omega
 rw[Int.toNat_natCast]at HF
 have HA:Hid (0<L.length→ ∃b off c,v= .slice (some ⟨b,off,none⟩) L.length c∧b<w.heap.size∧PairsAt w b off L):=aA (fun hp=>by
  rcases hL with⟨_,rfl⟩|⟨b,off,cap,rfl,hb,hc⟩
  ·simp at hp
  exact⟨b,off,cap,rfl,hb,(Reads.pairs (.inr ⟨b,off,cap,rfl,hb,hc⟩)).2⟩)
 obtain⟨a,c,rfl⟩:=hL.slice
 clear hL bw0 bh0 bw1 bh1
 go_enter Tryz.func49,Tryz.ntmps49
 go_wp2_with fail
 have BB:Hid (Blk (w.alloc (.cells #[.int .i64 bx, .int .i64 byy, .int .i64 (m:Int), .int .i64 (n:Int)] 71)) w.heap.size 71 #[.int .i64 bx, .int .i64 byy, .int .i64 (m:Int), .int .i64 (n:Int)]):=aA (Blk.new_ rfl)
 have X1:Hid (Ext w (w.alloc (.cells #[.int .i64 bx, .int .i64 byy, .int .i64 (m:Int), .int .i64 (n:Int)] 71))):=aA z_x
 obtain⟨w1,hw1⟩: ∃w1,w.alloc (.cells #[.int .i64 bx, .int .i64 byy, .int .i64 (m:Int), .int .i64 (n:Int)] 71)=w1:=⟨_,rfl⟩
 have hz1:w.heap.size+1=w1.heap.size:=by rw[←hw1];simp
 obtain⟨h,hh⟩: ∃h,w.heap.size=h:=⟨_,rfl⟩
 rw[hw1]at BB X1⊢
 rw[hh]at BB hz1⊢
 rw[hz1]
 have HZ1:=aA hz1
 clear hw1 hz1 hh
 have OB:Hid (Own cellE (w1.alloc (.cells #[] 28)) w1.heap.size 28 (.slice (some ⟨w1.heap.size,0,none⟩) 0 0) []):=aA (Own.lit0 cellE w1 _ _ _ rfl (Nat.le_refl _))
 have XB:Hid (Ext w1 (w1.alloc (.cells #[] 28))):=aA ((Ext.refl _).alloc _)
 go_loopw [5,6] (fun o y wr=> ∃j:Nat,y= .int .i64 (byy+(j:Int))∧j≤n∧Ext w1 wr∧Own cellE wr w1.heap.size 28 o (fU bx byy (m:Int) L j)) (fun _ y _=>n-(intOf y-byy).toNat)
 case atStart=>exact⟨0,by simp,Nat.zero_le _,XB.out,OB.out⟩
 obtain⟨j,rfl,hj,hx,ho⟩:=hrel
 have HX:=aA hx
 have HO:=aA ho
 have BBr:=aA (BB.out.ext hx)
 have HLj:=aA (aDv bx byy (m:Int) L j)
 have p0:=BBr.out.at 0 rfl;have p1:=BBr.out.at 1 rfl;have p2:=BBr.out.at 2 rfl;have p3:=BBr.out.at 3 rfl;have pz:=BBr.out.lt
 clear hx ho XB OB
 by_cases hlt:j<n
 ·have hlt':byy+(j:Int)<byy+(n:Int):=by omega
  have HRS:=aA (rJ bx byy (m:Int) L j)
  rw[Int.toNat_natCast]at HRS
  go_wp2_with fail
  go_loopw [5,7] (fun o x wy=> ∃i:Nat,x= .int .i64 (bx+(i:Int))∧i≤m∧Ext w1 wy∧Own cellE wy w1.heap.size 28 o (fU bx byy (m:Int) L j++eO bx (byy+(j:Int)) L i)) (fun _ x _=>m-(intOf x-bx).toNat)
  case atStart=>exact⟨0,by simp,Nat.zero_le _,HX.out,by simpa [eO] using HO.out⟩
  obtain⟨i,rfl,hi,hx,ho⟩:=hrel
  have HXi:=aA hx
  have HOi:=aA ho
  have BBi:=aA (BB.out.ext hx)
  have hzi:w1.heap.size≤wr.heap.size:=hx.size
  have HLi:=aA (tH bx (byy+(j:Int)) L i)
  have q0:=BBi.out.at 0 rfl;have q1:=BBi.out.at 1 rfl;have q2:=BBi.out.at 2 rfl;have q3:=BBi.out.at 3 rfl;have qz:=BBi.out.lt
  clear hx ho HO HX BBr p0 p1 p2 p3 pz
  by_cases hlti:i<m
  ·have hlti':bx+(i:Int)<bx+(m:Int):=by omega
   have HCS:=aA (aBi bx (byy+(j:Int)) L i)
   go_upto_region 9 with(fail)
   clear q0 q1 q2 q3 qz
   have BC:Hid (Blk (wr.alloc (.cells #[.int .i64 (bx+(i:Int)), .int .i64 (byy+(j:Int))] 28)) wr.heap.size 28 #[.int .i64 (bx+(i:Int)), .int .i64 (byy+(j:Int))]):=aA (Blk.new_ rfl)
   have XC:=aA (show Ext w1 (wr.alloc (.cells #[.int .i64 (bx+(i:Int)), .int .i64 (byy+(j:Int))] 28)) from HXi.out.trans ((Ext.refl _).alloc _))
   have OC:=aA (HOi.out.ext (show Ext wr (wr.alloc (.cells #[.int .i64 (bx+(i:Int)), .int .i64 (byy+(j:Int))] 28)) from(Ext.refl _).alloc _))
   obtain⟨wc,hwc⟩: ∃wc,wr.alloc (.cells #[.int .i64 (bx+(i:Int)), .int .i64 (byy+(j:Int))] 28)=wc:=⟨_,rfl⟩
   obtain⟨g,hg⟩: ∃g,wr.heap.size=g:=⟨_,rfl⟩
   rw[hwc]at BC XC OC⊢
   rw[hg]at BC⊢
   clear hwc hg hzi BBi HXi HOi
   go_wp2_with fail
   go_loopw [9,10] (fun s qv wz=> ∃q:Nat,qv= .int .i64 (q:Int)∧q≤L.length∧s= .bool (gIn (L.take q) (bx+(i:Int),byy+(j:Int)))∧Ext wc wz) (fun _ qv _=>L.length-(intOf qv).toNat)
   case atStart=>exact⟨0,rfl,Nat.zero_le _,by simp[gIn],Ext.refl _⟩
   obtain⟨q,rfl,hq,rfl,hx⟩:=hrel
   have HXq:=aA hx
   have BCr:=aA (BC.out.ext hx)
   have r0:=BCr.out.at 0 rfl;have r1:=BCr.out.at 1 rfl;have rz:=BCr.out.lt
   clear hx
   by_cases hltq:q<L.length
   ·obtain⟨b,off,c',hv,hb,hP⟩:=HA.out (by omega)
    simp only[Value.slice.injEq]at hv
    obtain⟨rfl,_,rfl⟩:=hv
    have hgq:L[q]? =some L[q]:=zG hltq
    obtain⟨d0,d1,d2,d3⟩:=hP q hltq
    have XW:=aA ((X1.out.trans XC.out).trans HXq.out)
    have e0:=(XW.out.cell (p:=⟨b,off+q*4,none⟩) hb).trans d0
    have e1:=(XW.out.cell (p:=⟨b,off+q*4+1,none⟩) hb).trans d1
    have e2:=(XW.out.cell (p:=⟨b,off+q*4+2,none⟩) hb).trans d2
    have e3:=(XW.out.cell (p:=⟨b,off+q*4+3,none⟩) hb).trans d3
    obtain⟨u,hu⟩: ∃u,L[q]=u:=⟨_,rfl⟩
    rw[hu]at hgq e0 e1 e2 e3
    obtain⟨⟨ua,ub⟩,⟨uc,ud⟩⟩:=u
    have HTK:=aA (vU hgq (bx+(i:Int),byy+(j:Int)))
    simp only at e0 e1 e2 e3
    have hbz:b<wr.heap.size:=Nat.lt_of_lt_of_le hb XW.out.size
    have hqi:(q:Int)<(L.length:Int):=by omega
    have hA1:=fun(w:World)=>bC (ua,ub) (bx+(i:Int),byy+(j:Int)) w
    have hB1:=fun(w:World)=>bC (uc,ud) (bx+(i:Int),byy+(j:Int)) w
    simp only at hA1 hB1
    clear d0 d1 d2 d3 hP hgq hu
    cases hs:gIn (L.take q) (bx+(i:Int),byy+(j:Int))
    ·rw[hs]at HTK
     cases ha:cK (ua,ub) (bx+(i:Int),byy+(j:Int))
     ·rw[ha]at hA1 HTK
      generalize cK (uc,ud) (bx+(i:Int),byy+(j:Int))=cb at *
      go_wp2_with fail
      refine aS wr [(0,true),(1,true),(2,true),(3,true),(4,true),(5,true),(6,true),(7,true),(8,true),(9,true),(10,true),(11,true),(12,true),(13,true),(14,true),(15,true),(16,true),(17,true),(18,true),(19,true)] (fun hK0=> ?_)
      iterate 20 (refine SeqH.fr1 ?_;try simp only[zz])
      refine SeqH.done ?_
      clear hK0
      go_wp2
      go_roundw
      case rel=>exact⟨q+1,by go_num,by omega,by rw[HTK.out];simp,HXq.out.drew⟩
      simp[intOf];omega
     rw[ha]at hA1 HTK
     go_wp2_with fail
     refine aS wr [(0,true),(1,true),(2,true),(3,true),(4,true),(5,true),(6,true),(7,true),(8,true),(9,true),(10,true),(11,true),(12,true),(13,true),(14,true),(15,true),(16,true),(17,true),(18,true),(19,true)] (fun hK0=> ?_)
     iterate 20 (refine SeqH.fr1 ?_;try simp only[zz])
     refine SeqH.done ?_
     clear hK0
     go_wp2
     go_roundw
     case rel=>exact⟨q+1,by go_num,by omega,by rw[HTK.out];simp,HXq.out.drew⟩
     simp[intOf];omega
    rw[hs]at HTK
    go_wp2_with fail
    refine aS wr [(0,true),(1,true),(2,true),(3,true),(4,true),(5,true),(6,true),(7,true),(8,true),(9,true),(10,true),(11,true),(12,true),(13,true),(14,true),(15,true),(16,true),(17,true),(18,true),(19,true)] (fun hK0=> ?_)
    iterate 20 (refine SeqH.fr1 ?_;try simp only[zz])
    refine SeqH.done ?_
    clear hK0
    go_wp2
    go_roundw
    case rel=>exact⟨q+1,by go_num,by omega,by rw[HTK.out];simp,HXq.out.drew⟩
    simp[intOf];omega
   obtain rfl:q=L.length:=by omega
   rw[List.take_of_length_le (Nat.le_refl _)]
   have XR:=aA (XC.out.trans HXq.out)
   have OR:=aA (OC.out.ext HXq.out)
   have hzr:w1.heap.size≤wr.heap.size:=XR.out.size
   obtain⟨ar,cr,har⟩:=OR.out.slice
   subst har
   have hll:(fU bx byy (m:Int) L j++eO bx (byy+(j:Int)) L i).length≤2000000:=by
    have h1:=HLj.out
    have h2:=HLi.out
    rw[List.length_append]
    rw[Int.toNat_natCast]at h1
    have h3:j*m≤1000*1000:=Nat.mul_le_mul (by omega) hm1
    omega
   cases hs:gIn L (bx+(i:Int),byy+(j:Int))
   ·have HE:=aA (show eO bx (byy+(j:Int)) L (i+1)=eO bx (byy+(j:Int)) L i by rw[HCS.out,hs];simp)
    go_wp2
    go_roundw
    case rel=>exact⟨i+1,by rw[show bx+((i+1:Nat):Int)=bx+(i:Int)+1 by omega],by omega,XR.out,by rw[HE.out];exact OR.out⟩
    simp[intOf];omega
   have HE:=aA (show fU bx byy (m:Int) L j++eO bx (byy+(j:Int)) L (i+1)=(fU bx byy (m:Int) L j++eO bx (byy+(j:Int)) L i)++[(bx+(i:Int),byy+(j:Int))] by rw[HCS.out,hs,List.append_assoc];simp)
   generalize fU bx byy (m:Int) L j++eO bx (byy+(j:Int)) L i=R at *
   go_wp2_with (at_builtin;refine dD cellE T_cellsG rfl _ _ rfl w1.heap.size _ _ R rfl OR.out (bx+(i:Int),byy+(j:Int)) _ _ rfl _ rfl rfl (by omega) (by omega) (by omega) ?_;intro g9 c9 w9 o9 t9 l9;have O9:=aA o9;have T9:=aA t9;clear o9 t9 l9)
   go_roundw
   case rel=>exact⟨i+1,by rw[show bx+((i+1:Nat):Int)=bx+(i:Int)+1 by omega],by omega,XR.out.of_below (T9.out.to_below (by omega) (fun z hz=>(aF OR.out hz).1)) (Nat.le_refl _),by rw[HE.out];exact O9.out⟩
   simp[intOf];omega
  obtain rfl:i=m:=by omega
  go_wp2
  go_roundw
  case rel=>exact⟨j+1,by rw[show byy+((j+1:Nat):Int)=byy+(j:Int)+1 by omega],by omega,HXi.out,by rw[HRS.out];exact HOi.out⟩
  simp[intOf];omega
 obtain rfl:j=n:=by omega
 obtain⟨ao,co,hao⟩:=HO.out.slice
 subst hao
 go_wp2
 go_ret
 exact⟨_,rfl,X1.out.trans HX.out,by rw[HF.out];exact HO.out.lower X1.out.size⟩
theorem nE {w:World} {a:Option Addr} {n c:Nat} {l:List aB} {k:Nat} {q:aB} (h:Reads cellE w (.slice a n c) l) (hk:l[k]? =some q): ∃b off,a=some ⟨b,off,none⟩∧b<w.heap.size∧w.cell? ⟨b,off+k*2,none⟩=some (.int .i64 q.1)∧w.cell? ⟨b,off+k*2+1,none⟩=some (.int .i64 q.2):=by
 rcases h with⟨_,rfl⟩|⟨b,off,cap,hv,hb,hc⟩
 ·simp at hk
 cases hv
 refine⟨b,off,rfl,hb,?_,?_⟩
 ·have:=hc k q hk 0 _ rfl
  simpa [cellE] using this
 have:=hc k q hk 1 _ rfl
 simpa [cellE,Nat.add_assoc] using this
end Go.Proofs.YtaellcgglldjaaaGreat

namespace Go.Proofs.YtaellcgglldjaaaGreat
open Go.RowKit
theorem aAn {k:Nat} (hk:k<4) (x y:Int):gU x (k:Int)=x+aU k∧gV y (k:Int)=y+aV k:=by
 obtain rfl|rfl|rfl|rfl:k=0∨k=1∨k=2∨k=3:=by omega
 all_goals (constructor<;>simp[gU,gV,aU,aV]<;>omega)
section
variable (l:List Int) (W bx byy bw bh:Int)
def relD (far:Nat→Int) (x y:Int) (k:Nat):Nat→Int:=
 if bO bx byy bw bh (x+aU k) (y+aV k)=true∧far (aC W (x+aU k,y+aV k))≠aJ∧far (aC W (x+aU k,y+aV k))+aL l W (x,y)<far (aC W (x,y)) then
  bQ far (aC W (x,y)) (far (aC W (x+aU k,y+aV k))+aL l W (x,y)) else far
def eE (far:Nat→Int) (x y:Int):Nat→Nat→Int
 |0=>far
 |k+1=>relD l W bx byy bw bh (eE far x y k) x y k
def fL (far:Nat→Int) (x y:Int):Nat→Int:=if aL l W (x,y)=0 then far else eE l W bx byy bw bh far x y 4
def hZ (far:Nat→Int) (y:Int):Nat→Nat→Int
 |0=>far
 |m+1=>fL l W bx byy bw bh (hZ far y m) (bx+m) y
def kI (far:Nat→Int):Nat→Nat→Int
 |0=>far
 |m+1=>hZ l W bx byy bw bh (kI far m) (byy+m) bw.toNat
end
section
variable {l:List Int} {W H bx byy bw bh:Int}
theorem aD9 (far:Nat→Int) (x y:Int) (k v:Nat):relD l W bx byy bw bh far x y k v≤far v:=by
 unfold relD
 split
 ·next h=>
  unfold bQ
  split
  ·next e=>subst e;omega
  exact Int.le_refl _
 exact Int.le_refl _
theorem rC (far:Nat→Int) (x y:Int) (v:Nat): ∀k,eE l W bx byy bw bh far x y k v≤far v
 |0=>Int.le_refl _
 |k+1=>Int.le_trans (aD9 _ x y k v) (rC far x y v k)
theorem tY (far:Nat→Int) (x y:Int) (v:Nat):fL l W bx byy bw bh far x y v≤far v:=by
 unfold fL
 split
 ·exact Int.le_refl _
 exact rC far x y v 4
theorem oJ (far:Nat→Int) (y:Int) (v:Nat): ∀m,hZ l W bx byy bw bh far y m v≤far v
 |0=>Int.le_refl _
 |m+1=>Int.le_trans (tY _ _ y v) (oJ far y v m)
theorem oI (far:Nat→Int) (v:Nat): ∀m,kI l W bx byy bw bh far m v≤far v
 |0=>Int.le_refl _
 |m+1=>Int.le_trans (oJ _ _ v _) (oI far v m)
def jE (D far:Nat→Int):Prop:= ∀v,D v≤far v
theorem aJx (L:LandP W H l bx byy bw bh) {s:Nat} {D:Nat→Int} (F:IsFar (aE L) s D) {far:Nat→Int} (h:jE D far) {x y:Int} (hb:bO bx byy bw bh x y=true) (h0:0<aL l W (x,y)) {k:Nat} (hk:k<4) (hle: ∀v,far v≤aJ):jE D (relD l W bx byy bw bh far x y k):=by
 intro v
 unfold relD
 split
 ·next hc=>
  unfold bQ
  split
  ·next e=>
   subst e
   obtain⟨c1,c2,c3⟩:=hc
   have hin:=L.in_ hb
   have huI:=L.in_ c1
   have ho:bD l W bx byy bw bh x y=true:=by unfold bD;rw[hb,decide_eq_true h0];rfl
   have hov:(aE L).op (aC W (x,y))=true:=by
    show opV _ _ _ _=true
    rw[L.opV_idx hin];exact ho
   have hu:=h (aC W (x+aU k,y+aV k))
   have hfu:=hle (aC W (x+aU k,y+aV k))
   have hfv:=hle (aC W (x,y))
   have hou:=F.open_ (v:=aC W (x+aU k,y+aV k)) (by omega)
   have hco:(aE L).cost (aC W (x,y))=aL l W (x,y):=rfl
   by_cases hs:aC W (x,y)=s
   ·rw[←hs]at F
    rw[F.start hov]
    have:=F.nn (aC W (x+aU k,y+aV k))
    omega
   have hadj:aC W (x+aU k,y+aV k)∈(aE L).adj (aC W (x,y)):=by
    refine List.mem_map.2 ⟨(x+aU k,y+aV k),?_,rfl⟩
    rw[dQ hin.1 hin.2.1 hin.2.2.1,dR hin.1 hin.2.1 hin.2.2.1]
    refine mem_nbC.2 ⟨k,hk,?_,rfl⟩
    have:opV (bD l W bx byy bw bh) W l.length (aC W (x+aU k,y+aV k))=true:=hou
    rw[L.opV_idx huI]at this
    exact this
   have:=F.near _ hov hs _ hadj hou (by rw[hco];omega)
   rw[hco]at this
   omega
  exact h v
 exact h v
theorem aA6 (L:LandP W H l bx byy bw bh) {s:Nat} {D:Nat→Int} (F:IsFar (aE L) s D) {far:Nat→Int} (h:jE D far) {x y:Int} (hb:bO bx byy bw bh x y=true) (h0:0<aL l W (x,y)) (hle: ∀v,far v≤aJ): ∀k,k≤4→jE D (eE l W bx byy bw bh far x y k)
 |0,_=>h
 |k+1,hk=>aJx L F (aA6 L F h hb h0 hle k (by omega)) hb h0 (by omega) (fun v=>Int.le_trans (rC far x y v k) (hle v))
theorem aC4 (L:LandP W H l bx byy bw bh) {s:Nat} {D:Nat→Int} (F:IsFar (aE L) s D) {far:Nat→Int} (h:jE D far) {x y:Int} (hb:bO bx byy bw bh x y=true) (hle: ∀v,far v≤aJ):jE D (fL l W bx byy bw bh far x y):=by
 unfold fL
 split
 ·exact h
 have:=(bX L.u16 W (x,y)).1
 exact aA6 L F h hb (by omega) hle 4 (Nat.le_refl _)
theorem aIl {m j:Nat} (hm:(m:Int)<bw) (hj:(j:Int)<bh):bO bx byy bw bh (bx+m) (byy+j)=true:=hasB_true.2 (by omega)
theorem aA7 (L:LandP W H l bx byy bw bh) {s:Nat} {D:Nat→Int} (F:IsFar (aE L) s D) {far:Nat→Int} (h:jE D far) {j:Nat} (hj:(j:Int)<bh) (hle: ∀v,far v≤aJ): ∀m:Nat,(m:Int)≤bw→jE D (hZ l W bx byy bw bh far (byy+j) m)
 |0,_=>h
 |m+1,hm=>aC4 L F (aA7 L F h hj hle m (by omega)) (aIl (by omega) hj) (fun v=>Int.le_trans (oJ far _ v m) (hle v))
theorem sN (L:LandP W H l bx byy bw bh) {s:Nat} {D:Nat→Int} (F:IsFar (aE L) s D) {far:Nat→Int} (h:jE D far) (hle: ∀v,far v≤aJ): ∀m:Nat,(m:Int)≤bh→jE D (kI l W bx byy bw bh far m)
 |0,_=>h
 |m+1,hm=>aA7 L F (sN L F h hle m (by omega)) (by omega) (fun v=>Int.le_trans (oI far v m) (hle v)) _ (by have:=(fitsR_true.1 L.fits);omega)
theorem wQ (far:Nat→Int) (x y:Int) {k:Nat} (hb:bO bx byy bw bh (x+aU k) (y+aV k)=true) (hu:far (aC W (x+aU k,y+aV k))<aJ): ∀n,k<n→eE l W bx byy bw bh far x y n (aC W (x,y))≤far (aC W (x+aU k,y+aV k))+aL l W (x,y)
 |n+1,hk=>by
  by_cases e:k=n
  ·subst e
   have h1:=rC (l:=l) (W:=W) (bx:=bx) (byy:=byy) (bw:=bw) (bh:=bh) far x y (aC W (x+aU k,y+aV k)) k
   show relD l W bx byy bw bh (eE l W bx byy bw bh far x y k) x y k _≤_
   unfold relD
   split
   ·rw[dC];omega
   next hn=>
   have: ¬(eE l W bx byy bw bh far x y k (aC W (x+aU k,y+aV k))+aL l W (x,y)<eE l W bx byy bw bh far x y k (aC W (x,y))):=fun hlt=>hn ⟨hb,by omega,hlt⟩
   omega
  exact Int.le_trans (aD9 _ x y n _) (wQ far x y hb hu n (by omega))
theorem wS (far:Nat→Int) (y:Int) {j k:Nat} (hk:k<4) (hc:aL l W (bx+j,y)≠0) (hb:bO bx byy bw bh (bx+j+aU k) (y+aV k)=true) (hu:far (aC W (bx+j+aU k,y+aV k))<aJ): ∀m,j<m→hZ l W bx byy bw bh far y m (aC W (bx+j,y))≤far (aC W (bx+j+aU k,y+aV k))+aL l W (bx+j,y)
 |m+1,hm=>by
  by_cases e:j=m
  ·subst e
   have h1:=oJ (l:=l) (W:=W) (bx:=bx) (byy:=byy) (bw:=bw) (bh:=bh) far y (aC W (bx+j+aU k,y+aV k)) j
   show fL l W bx byy bw bh (hZ l W bx byy bw bh far y j) (bx+j) y _≤_
   unfold fL
   rw[if_neg hc]
   exact Int.le_trans (wQ _ _ _ hb (by omega) 4 hk) (by omega)
  exact Int.le_trans (tY _ _ y _) (wS far y hk hc hb hu m (by omega))
theorem wP (far:Nat→Int) {i j k:Nat} (hk:k<4) (hi:(i:Int)<bw) (hc:aL l W (bx+i,byy+j)≠0) (hb:bO bx byy bw bh (bx+i+aU k) (byy+j+aV k)=true) (hu:far (aC W (bx+i+aU k,byy+j+aV k))<aJ): ∀m,j<m→kI l W bx byy bw bh far m (aC W (bx+i,byy+j))≤far (aC W (bx+i+aU k,byy+j+aV k))+aL l W (bx+i,byy+j)
 |m+1,hm=>by
  by_cases e:j=m
  ·subst e
   have h1:=oI (l:=l) (W:=W) (bx:=bx) (byy:=byy) (bw:=bw) (bh:=bh) far (aC W (bx+i+aU k,byy+j+aV k)) j
   exact Int.le_trans (wS _ _ hk hc hb (by omega) bw.toNat (by omega)) (by omega)
  exact Int.le_trans (oJ _ _ _ _) (wP far hk hi hc hb hu m (by omega))
def rnd (l:List Int) (W bx byy bw bh:Int) (far:Nat→Int):Nat→Int:=kI l W bx byy bw bh far bh.toNat
theorem aK0 (L:LandP W H l bx byy bw bh) (far:Nat→Int) {u v:Nat} (hv:(aE L).op v=true) (hu:u∈(aE L).adj v) (hf:far u<aJ):rnd l W bx byy bw bh far v≤far u+(aE L).cost v:=by
 obtain⟨p,hp,rfl⟩:=List.mem_map.1 hu
 obtain⟨k,hk,ho,rfl⟩:=mem_nbC.1 hp
 have hvl:=(aE L).lt v hv
 have hv':opV (bD l W bx byy bw bh) W l.length v=true:=hv
 unfold opV at hv'
 simp only[Bool.and_eq_true]at hv'
 have h1:=eQ hv'.2
 have h2:=hasB_true.1 h1.1
 have hkb:=(eQ ho).1
 obtain⟨i,hi⟩: ∃i:Nat,vx W v=bx+i:=⟨(vx W v-bx).toNat,by omega⟩
 obtain⟨j,hj⟩: ∃j:Nat,vy W v=byy+j:=⟨(vy W v-byy).toNat,by omega⟩
 have hid:=gE L.wh.1 v
 have hco:(aE L).cost v=aL l W (bx+i,byy+j):=by
  rw[mJ,←hi,←hj,hid];rfl
 rw[hco]
 rw[hi,hj]at hf hkb h1 hid⊢
 have:=wP (l:=l) (W:=W) (bx:=bx) (byy:=byy) (bw:=bw) (bh:=bh) far (i:=i) (j:=j) hk (by omega) (by omega) hkb hf bh.toNat (by omega)
 rw[hid]at this
 exact this
theorem yL {α:Type} {p q:α→Bool}: ∀{l:List α},(∀a∈l,p a=true→q a=true)→(∃a∈l,q a=true∧p a=false)→l.countP p<l.countP q
 |[],_,⟨a,h,_⟩=>by cases h
 |b::l,hpq,⟨a,ha,hq,hp⟩=>by
  rw[List.countP_cons,List.countP_cons]
  have hmono:l.countP p≤l.countP q:=List.countP_mono_left fun x hx=>hpq x (List.mem_cons_of_mem _ hx)
  by_cases hab:a=b
  ·subst hab
   rw[hq,hp];simp;omega
  have hal:a∈l:=by
   rcases List.mem_cons.1 ha with h|h
   ·exact absurd h hab
   exact h
  have:=yL (fun x hx=>hpq x (List.mem_cons_of_mem _ hx)) ⟨a,hal,hq,hp⟩
  have hb:=hpq b List.mem_cons_self
  cases h:p b
  ·split<;>split<;>simp_all<;>omega
  rw[hb h];simp;omega
def qK (n:Nat) (D far:Nat→Int):Nat:=(List.range n).countP fun v=>decide (far v=D v)
theorem aHl (n:Nat) (D far:Nat→Int):qK n D far≤n:=by
 have:=List.countP_le_length (p:=fun v=>decide (far v=D v)) (l:=List.range n)
 rw[List.length_range]at this
 exact this
theorem wT (L:LandP W H l bx byy bw bh) {s:Nat} {D:Nat→Int} (F:IsFar (aE L) s D) {far:Nat→Int} (h:jE D far) (hle: ∀v,far v≤aJ) (hs:far s=D s) (hne: ∃v,far v≠D v):qK l.length D far<qK l.length D (rnd l W bx byy bw bh far):=by
 have hfin: ∀v,far v≠D v→D v<aJ:=fun v hv=>by
  have h1:=h v
  have h2:=hle v
  omega
 have hlow:jE D (rnd l W bx byy bw bh far):=sN L F h hle _ (by have:=(fitsR_true.1 L.fits);omega)
 obtain⟨v,hv,hmin⟩: ∃v,far v≠D v∧ ∀u,far u≠D u→D v≤D u:=by
  obtain⟨v0,h0⟩:=hne
  have: ∀k:Nat,∀v,far v≠D v→D v=(k:Int)→ ∃v,far v≠D v∧ ∀u,far u≠D u→D v≤D u:=by
   intro k
   induction k using Nat.strongRecOn with
   |_ k ih=>
    intro v hv hk
    by_cases hex: ∃u,far u≠D u∧D u<D v
    ·obtain⟨u,hu,hlt⟩:=hex
     exact ih (D u).toNat (by have:=F.nn u;omega) u hu (by have:=F.nn u;omega)
    exact⟨v,hv,fun u hu=>Int.not_lt.1 fun hlt=>hex ⟨u,hu,hlt⟩⟩
  exact this (D v0).toNat v0 h0 (by have:=F.nn v0;omega)
 have hvf:=hfin v hv
 have hov:=F.open_ hvf
 have hvs:v≠s:=fun e=>hv (e▸hs)
 obtain⟨u,hu,huo,he⟩:=F.from_ v hov hvs hvf
 have hc:=(aE L).pos v hov
 have huR:far u=D u:=by
  by_cases e:far u=D u
  ·exact e
  have:=hmin u e
  omega
 have hn:=aK0 L far hov hu (by omega)
 have hlt:v<l.length:=(aE L).lt v hov
 refine yL (fun x _ hx=> ?_) ⟨v,List.mem_range.2 hlt,?_,by simpa using hv⟩
 ·simp only[decide_eq_true_eq]at hx⊢
  have h1:=oI (l:=l) (W:=W) (bx:=bx) (byy:=byy) (bw:=bw) (bh:=bh) far x bh.toNat
  have h2:=hlow x
  show kI l W bx byy bw bh far bh.toNat x=D x
  unfold rnd at h2
  omega
 simp only[decide_eq_true_eq]
 have h2:=hlow v
 omega
structure Rnds (D far:Nat→Int) (s n r:Nat):Prop where
 low:jE D far
 le: ∀v,far v≤aJ
 at_:far s=D s
 many:(∀v,far v=D v)∨r+1≤qK n D far
theorem Rnds.start (L:LandP W H l bx byy bw bh) {s:Nat} {D:Nat→Int} (F:IsFar (aE L) s D) (ho:(aE L).op s=true):Rnds D (bQ (fun _=>aJ) s 0) s l.length 0 where
 low v:=by
  unfold bQ
  split
  ·next e=>subst e;rw[F.start ho];exact Int.le_refl _
  exact F.le v
 le v:=by
  unfold bQ
  split
  ·decide
  exact Int.le_refl _
 at_:=by rw[dC,F.start ho]
 many:=by
  right
  have:0<qK l.length D (bQ (fun _=>aJ) s 0):=by
   refine List.countP_pos_iff.2 ⟨s,List.mem_range.2 ((aE L).lt s ho),?_⟩
   rw[dC,F.start ho];rfl
  omega
theorem Rnds.next (L:LandP W H l bx byy bw bh) {s r:Nat} {D far:Nat→Int} (F:IsFar (aE L) s D) (h:Rnds D far s l.length r):Rnds D (rnd l W bx byy bw bh far) s l.length (r+1):=by
 have hbh:=(fitsR_true.1 L.fits)
 have hlow:jE D (rnd l W bx byy bw bh far):=sN L F h.low h.le _ (by omega)
 have hle: ∀v,rnd l W bx byy bw bh far v≤far v:=fun v=>oI far v _
 refine⟨hlow,fun v=>Int.le_trans (hle v) (h.le v),?_,?_⟩
 ·have h1:=hle s
  have h2:=hlow s
  have:=h.at_
  omega
 by_cases hd: ∀v,far v=D v
 ·left
  intro v
  have h1:=hle v
  have h2:=hlow v
  have:=hd v
  omega
 right
 have hne: ∃v,far v≠D v:=by simpa using hd
 have:=wT L F h.low h.le h.at_ hne
 rcases h.many with hm|hm
 ·exact absurd hm hd
 omega
theorem Rnds.still (L:LandP W H l bx byy bw bh) {s r:Nat} {D far:Nat→Int} (F:IsFar (aE L) s D) (h:Rnds D far s l.length r) (he: ∀v,rnd l W bx byy bw bh far v=far v): ∀v,far v=D v:=by
 by_cases hd: ∀v,far v=D v
 ·exact hd
 have hne: ∃v,far v≠D v:=by simpa using hd
 have:=wT L F h.low h.le h.at_ hne
 rw[show rnd l W bx byy bw bh far=far from funext he]at this
 omega
theorem Rnds.full {s n:Nat} {D far:Nat→Int} (h:Rnds D far s n n): ∀v,far v=D v:=by
 rcases h.many with hm|hm
 ·exact hm
 have:=aHl n D far
 omega
def BdT (T:Nat) (far:Nat→Int):Prop:= ∀v,0≤far v∧far v≤aJ∧(far v<aJ→far v≤65535*(T:Int))
theorem BdT.mono {T T':Nat} {far:Nat→Int} (h:BdT T far) (ht:T≤T'):BdT T' far:=fun v=>⟨(h v).1,(h v).2.1,fun hv=>by have:=(h v).2.2 hv;omega⟩
theorem BdT.relD (hu:cV l) {T:Nat} {far:Nat→Int} (h:BdT T far) (ht:T<100000000000) (x y:Int) (k:Nat):BdT (T+1) (relD l W bx byy bw bh far x y k):=by
 intro v
 have hc:=bX hu W (x,y)
 unfold Go.Proofs.YtaellcgglldjaaaGreat.relD
 split
 ·next hk=>
  unfold bQ
  split
  ·have h1:=h (aC W (x+aU k,y+aV k))
   have h2:=h1.2.2 (by omega)
   have e:aJ=18446744073709551615:=rfl
   refine⟨by omega,by omega,fun _=>by omega⟩
  exact(h.mono (Nat.le_succ T)) v
 exact(h.mono (Nat.le_succ T)) v
theorem BdT.sum (hu:cV l) {T:Nat} {far:Nat→Int} (h:BdT T far) (ht:T<100000000000) {u:Nat} (hf:far u≠aJ) (x y:Int):far u+aL l W (x,y)<18446744073709551616:=by
 have hc:=bX hu W (x,y)
 have h1:=h u
 have h2:=h1.2.2 (by omega)
 omega
end
end Go.Proofs.YtaellcgglldjaaaGreat

