/- Part of a proof: InP RedP HierP LayC RefG. -/
import Derived.Test.YtaellcgglldjaaaGreatHq04
import Derived.Test.YtaellcgglldjaaaGreatHq09
import Derived.Test.YtaellcgglldjaaaGreatHq06
import Derived.Shelf.SlLaysF0
import Derived.Test.YtaellcgglldjaaaGreatHq01
import Derived.Test.YtaellcgglldjaaaGreatHq05
set_option linter.all false
set_option linter.unusedVariables false
set_option linter.unusedSimpArgs false
namespace Go.Proofs.YtaellcgglldjaaaGreat

def mG (p q:aB):Bool:=decide (p.2<q.2)||(decide (q.2=p.2)&&decide (p.1<q.1))
def eB (W H s id:Int) (c:aB):Bool:=inB W H c.1 c.2&&decide (ofN W s c.1 c.2=id)
def bW (W H s id:Int) (l:List aB) (i:Nat):Int:=if eB W H s id (l.getD i (0,0))=false then 10 else if 0<i∧mG (l.getD (i-1) (0,0)) (l.getD i (0,0))=false then 11 else 0
def bS (W H s id:Int) (l:List aB):Nat→Int
 |0=>0
 |k+1=>if bS W H s id l k=0 then bW W H s id l k else bS W H s id l k
theorem oT {W H s id:Int} {l:List aB} {k:Nat} (h:bS W H s id l k≠0): ∀m,bS W H s id l (k+m)=bS W H s id l k
 |0=>rfl
 |m+1=>by
  show(if bS W H s id l (k+m)=0 then _ else _)=_
  have ih:=oT h m
  rw[if_neg (by rw[ih];exact h)]
  exact ih
theorem aEd {W H s id:Int} {l:List aB} {k:Nat} (h:bS W H s id l k=0) (hb:bW W H s id l k≠0) {n:Nat} (hn:k<n):bS W H s id l n=bW W H s id l k:=by
 have h1:bS W H s id l (k+1)=bW W H s id l k:=if_pos h
 obtain⟨m,rfl⟩: ∃m,n=k+1+m:=⟨n-(k+1),by omega⟩
 rw[oT (by rw[h1];exact hb),h1]
theorem mI {W H s id:Int} {l:List aB} {k:Nat} (h:bS W H s id l k=0) (hb:bW W H s id l k=0):bS W H s id l (k+1)=0:=(if_pos h).trans hb
theorem qE {W H s id:Int} {l:List aB}: ∀{n:Nat},bS W H s id l n=0→ ∀k,k<n→bW W H s id l k=0
 |0,_,k,hk=>absurd hk (Nat.not_lt_zero k)
 |n+1,h,k,hk=>by
  have h1:(if bS W H s id l n=0 then bW W H s id l n else bS W H s id l n)=0:=h
  split at h1
  ·next h2=>
   by_cases e:k=n
   ·rw[e];exact h1
   ·exact qE h2 k (by omega)
  ·next h2=>exact absurd h1 h2
theorem xA {W H s id:Int} {l:List aB} {k:Nat} (h:bW W H s id l k=0):eB W H s id (l.getD k (0,0))=true:=by
 unfold bW at h
 split at h
 ·cases h
 ·next h1=>cases hi:eB W H s id (l.getD k (0,0));exact absurd hi h1;rfl
def dC (W H:Int) (n:Nat) (PW PH s id:Int) (l:List aB):Int:=
 if aS W H n=0 then(if PW=W∧PH=H then(if aL PW PH s=true then(if bad PW PH s id=true then 10 else bS PW PH s id l l.length) else 1) else 1) else aS W H n
theorem innerE_ok {W H:Int} {n:Nat} {PW PH s id:Int} {l:List aB}:dC W H n PW PH s id l=0↔aS W H n=0∧PW=W∧PH=H∧aL W H s=true∧(0≤id∧id<cnt W H s)∧bS W H s id l l.length=0:=by
 unfold dC
 constructor
 ·intro h
  split at h
  ·next h1=>
   split at h
   ·next h2=>
    obtain⟨rfl,rfl⟩:=h2
    split at h
    ·next h3=>
     split at h
     ·cases h
     ·next h4=>exact⟨h1,rfl,rfl,h3,bad_false_iff.1 (by simpa using h4),h⟩
    ·cases h
   ·cases h
  ·next h1=>exact absurd h h1
 ·rintro⟨h1,rfl,rfl,h3,h4,h5⟩
  rw[if_pos h1,if_pos ⟨rfl,rfl⟩,if_pos h3,if_neg (by rw[bad_false_iff.2 h4];simp),h5]
def cT (W H s id:Int) (l:List Int):Prop:=LandP W H l (aU W s id) (aP W s id) (bB W s id) (bA W H s id)
theorem aJr {W H s id:Int} {l:List Int} (hc:aS W H l.length=0) (hr:aL W H s=true) (hi:0≤id∧id<cnt W H s) (hu:cS l):cT W H s id l:=by
 obtain⟨hm,hl⟩:=checkE_ok.1 hc
 exact⟨hm,hl,hu,aHk hr hi.1 hi.2⟩
theorem fP {W H s id:Int} (hr:aL W H s=true) (hi:0≤id∧id<cnt W H s) (c:aB):eB W H s id c=bL (aU W s id) (aP W s id) (bB W s id) (bA W H s id) c.1 c.2:=by
 unfold eB
 have hh: ∀b,lI c.1 c.2 (lE W H s id)=b→bL (aU W s id) (aP W s id) (bB W s id) (bA W H s id) c.1 c.2=b:=fun b h=>by rw[←h];rfl
 cases hb:inB W H c.1 c.2
 ·rw[hh _ (aHu hr hb hi.1 hi.2)];rfl
 ·have h:=nW hr hb hi.1 hi.2
  rw[Bool.true_and]
  by_cases e:id=ofN W s c.1 c.2
  ·rw[hh _ (h.2 e)];simpa using e.symm
  ·rw[hh false (by cases k:lI c.1 c.2 (lE W H s id);rfl;exact absurd (h.1 k) e)]
   simpa using fun k=>e k.symm
noncomputable def cJ {W H:Int} {l:List Int} {bx byy bw bh:Int} (L:LandP W H l bx byy bw bh) (c:aB):Nat→Int:=Classical.choose (kX (aF L) (aC W c))
theorem eD {W H:Int} {l:List Int} {bx byy bw bh:Int} (L:LandP W H l bx byy bw bh) (c:aB):IsFar (aF L) (aC W c) (cJ L c):=Classical.choose_spec (kX (aF L) (aC W c))
theorem nQ {W H:Int} {l:List Int} {bx byy bw bh:Int} (L:LandP W H l bx byy bw bh) {c:aB} {D:Nat→Int} (F:IsFar (aF L) (aC W c) D) (v:Nat):D v=cJ L c v:=F.same (eD L c) v
noncomputable def jC {W H:Int} {l:List Int} {bx byy bw bh:Int} (L:LandP W H l bx byy bw bh) (cs:List aB) (c:aB):List Int:=cs.map (fun q=>cJ L c (aC W q))
end Go.Proofs.YtaellcgglldjaaaGreat

namespace Go.Proofs.YtaellcgglldjaaaGreat
open Go.RowKit
def zD (G:Int→Int→List (aB×aB)) (W H s a:Int):List (aB×aB):=((bQ (aO W H s a)).filter (fun b=>decide (a<b))).flatMap (G a)
def lD (G:Int→Int→List (aB×aB)) (W H s:Int) (n:Nat):List (aB×aB):=(List.range n).flatMap fun k:Nat=>zD G W H s (k:Int)
theorem aE1 (G:Int→Int→List (aB×aB)) (W H s:Int) (n:Nat):lD G W H s (n+1)=lD G W H s n++zD G W H s (n:Int):=by
 unfold lD;rw[List.range_succ,List.flatMap_append];simp
theorem aBd {G:Int→Int→List (aB×aB)} {l:List Int} {W H s:Int} {n:Nat} (hr:aL W H s=true)
  (hG: ∀a b,0≤a→a<n→b∈aO W H s a→a<b→G a b=btw l W H s a b):lD G W H s n=ofG l W H s n:=by
 unfold lD ofG
 refine iF fun k hk=> ?_
 rw[List.mem_range]at hk
 unfold zD oD
 have e:(bQ (aO W H s (k:Int))).filter (fun b=>decide ((k:Int)<b))=(bQ (aO W H s (k:Int))).filter (fun b=>decide ((k:Int)≤b)):=by
  refine List.filter_congr fun b hb=> ?_
  have hb':=(cM _).mem_iff.1 hb
  have hne:b≠(k:Int):=by
   rintro rfl
   have h:=gH (id:=(k:Int)) hr
   unfold eV at h
   simp at h
   exact h hb'
  exact decide_eq_decide.2 (by omega)
 rw[←e]
 refine iF fun b hb=> ?_
 obtain⟨h1,h2⟩:=List.mem_filter.1 hb
 exact hG _ _ (by omega) (by omega) ((cM _).mem_iff.1 h1) (by simpa using h2)
structure Good (W H s:Int) (l:List Int):Prop where
 ok:aS W H l.length=0
 right:aL W H s=true
 u16:cS l
theorem Good.box {W H s:Int} {l:List Int} (g:Good W H s l) {id:Int} (hi:0≤id∧id<cnt W H s):cT W H s id l:=aJr g.ok g.right hi g.u16
abbrev Tab:=List aB×List (List Int)
open Classical in
noncomputable def aIv (W H s:Int) (l:List Int) (id:Int) (cs:List aB):Tab:=(cs,if h:cT W H s id l then cs.map (jC h cs) else[])
theorem uF {W H s id:Int} {l:List Int} (L:cT W H s id l) (cs:List aB):aIv W H s l id cs=(cs,cs.map (jC L cs)):=by
 unfold aIv;rw[dif_pos L]
def aI (W H s:Int) (l:List Int):List (aB×aB):=ofG l W H s (cnt W H s).toNat
def bN (W H s:Int) (l:List Int) (id:Int):List aB:=lF W H s id (aI W H s l)
noncomputable def eZ (W H s:Int) (l:List Int) (id:Int):Tab:=aIv W H s l id (bN W H s l id)
end Go.Proofs.YtaellcgglldjaaaGreat

namespace Go.Proofs.YtaellcgglldjaaaGreat
open Go.RowKit
def aD7 (G:List (aB×aB)) (f t c:aB):Bool:=(decide (c=f)||decide (c=t))||gIn G c
def cE (W H:Int) (G:List (aB×aB)) (f t:aB):List aB:=(gO 0 0 W H).filter (aD7 G f t)
theorem vZ (W H:Int) (G:List (aB×aB)) (f t:aB):(cE W H G f t).Pairwise ltC:=(lV 0 0 W H).filter _
theorem nodesL_mem {W H:Int} {G:List (aB×aB)} {f t c:aB}:c∈cE W H G f t↔((0≤c.1∧c.1<W)∧(0≤c.2∧c.2<H))∧(c=f∨c=t∨gIn G c=true):=by
 unfold cE aD7
 rw[List.mem_filter,iC]
 simp only[Bool.or_eq_true,decide_eq_true_eq,Int.zero_add]
 constructor
 ·rintro⟨h1,h2⟩
  exact⟨by omega,or_assoc.1 h2⟩
 ·rintro⟨h1,h2⟩
  exact⟨by omega,or_assoc.2 h2⟩
def wH (G:List (aB×aB)):List aB:=G.flatMap fun g=>[g.1,g.2]
theorem gIn_flat {G:List (aB×aB)} {c:aB}:gIn G c=true↔c∈wH G:=by
 unfold wH
 rw[gIn_iff,List.mem_flatMap]
 constructor
 ·rintro⟨g,hg,h⟩
  refine⟨g,hg,?_⟩
  rcases h with rfl|rfl<;>simp
 ·rintro⟨g,hg,h⟩
  refine⟨g,hg,?_⟩
  simp only[List.mem_cons,List.not_mem_nil,or_false]at h
  exact h.imp Eq.symm Eq.symm
open Classical in
noncomputable def cI (W H s:Int) (l:List Int) (a c:aB):Int:=if h:cT W H s (ofN W s a.1 a.2) l then cJ h a (aC W c) else aE
noncomputable def kB (W H s:Int) (l:List Int) (N:List aB) (a:aB):List (aB×Int):=(N.filter fun c=>decide (ofN W s c.1 c.2=ofN W s a.1 a.2)&&(!(decide (c=a))&& !(decide (cI W H s l a c=aE)))).map fun c=>(c,cI W H s l a c)
def mN (W:Int) (l:List Int) (a:aB) (g:aB×aB):List (aB×Int):=if g.1=a then[(g.2,aH l W g.2)] else if g.2=a then[(g.1,aH l W g.1)] else[]
def dI (W:Int) (l:List Int) (G:List (aB×aB)) (a:aB):List (aB×Int):=G.flatMap (mN W l a)
noncomputable def cO (W H s:Int) (l:List Int) (G:List (aB×aB)) (f t a:aB):List (aB×Int):=kB W H s l (cE W H G f t) a++dI W l G a
theorem eU {W H s:Int} {l:List Int} (hr:aL W H s=true) {g:aB×aB} (hg:g∈aI W H s l):
  ∃a b,0≤a∧a<b∧b<cnt W H s∧Pair W H s a b∧inB W H g.1.1 g.1.2=true∧inB W H g.2.1 g.2.2=true∧ofN W s g.1.1 g.1.2=a∧ofN W s g.2.1 g.2.2=b∧kW l W g=true∧ ∃k:Nat,(aT W H s a b)[k]? =some g:=by
 unfold aI ofG at hg
 obtain⟨k,hk,hg⟩:=List.mem_flatMap.1 hg
 have hk:=List.mem_range.1 hk
 unfold oD at hg
 obtain⟨b,hb,hg⟩:=List.mem_flatMap.1 hg
 obtain⟨hb1,hb2⟩:=List.mem_filter.1 hb
 have hb1:=(cM _).mem_iff.1 hb1
 have hb2:(k:Int)≤b:=of_decide_eq_true hb2
 have hne:b≠(k:Int):=by
  rintro rfl
  have h:=gH (id:=(k:Int)) hr
  rw[hasI_iff.2 hb1]at h
  cases h
 have hrg:=iA hr (show(0:Int)≤(k:Int) by omega) (by omega) hb1
 have hp:=(mA hr (show(0:Int)≤(k:Int) by omega) (by omega) hrg.2).1 (hasI_iff.2 hb1)
 unfold btw fL at hg
 obtain⟨j,hj,hg⟩:=List.mem_filterMap.1 hg
 have hg':(aT W H s (k:Int) b)[j]? =some g:=by
  have e:eK W H s (k:Int) b=aT W H s (k:Int) b:=by
   unfold eK
   rw[show min (k:Int) b=(k:Int) by omega,show max (k:Int) b=b by omega]
  rw[←e];exact hg
 obtain⟨c1,c2,c3,c4,_⟩:=eJ hr hp hg'
 refine⟨(k:Int),b,by omega,by omega,hrg.2,hp,c1,c2,c3,c4,?_,j,hg'⟩
 unfold oC at hj
 have hm:=(List.mem_filter.1 hj).2
 unfold tT at hm
 have ho:=(Bool.and_eq_true _ _▸hm).1
 unfold opB at ho
 rw[hg]at ho
 exact ho
theorem aJy {W H s:Int} {l:List Int} (hr:aL W H s=true) {c:aB} (hc:c∈wH (aI W H s l)):inB W H c.1 c.2=true:=by
 unfold wH at hc
 obtain⟨g,hg,h⟩:=List.mem_flatMap.1 hc
 obtain⟨a,b,_,_,_,_,h1,h2,_⟩:=eU hr hg
 simp only[List.mem_cons,List.not_mem_nil,or_false]at h
 rcases h with rfl|rfl
 ·exact h1
 ·exact h2
end Go.Proofs.YtaellcgglldjaaaGreat

namespace Go.Proofs.YtaellcgglldjaaaGreat
open Go.Shelf Go.RowKit
def aGk:Go.Shelf.Ren:=⟨fun|6=>133|14=>171|15=>126|20=>188|21=>189|22=>190|23=>191|24=>192|25=>193|26=>194|27=>195|28=>168|29=>169|46=>199|47=>183|48=>184|49=>200|50=>201|57=>202|n=>n,fun|0=>0|3=>3|4=>4|5=>5|9=>9|22=>37|24=>28|25=>230|39=>171|45=>257|46=>258|50=>243|53=>238|55=>38|66=>276|70=>280|76=>292|77=>293|n=>n,fun n=>n⟩
theorem wK:SlLaysF0.n6 Tryz.prog aGk:={
 mixed:=by kernel_rfl,
 f6:=⟨Tryz.f133.name,by decide,Tryz.func133.trans (congrArg some (by kernel_rfl))⟩,
 f14:=⟨Tryz.f171.name,by decide,Tryz.func171.trans (congrArg some (by kernel_rfl))⟩,
 f15:=Tryz.func126.trans (congrArg some (by kernel_rfl)),
 f20:=⟨Tryz.f188.name,by decide,Tryz.func188.trans (congrArg some (by kernel_rfl))⟩,
 f21:=⟨Tryz.f189.name,by decide,Tryz.func189.trans (congrArg some (by kernel_rfl))⟩,
 f22:=⟨Tryz.f190.name,by decide,Tryz.func190.trans (congrArg some (by kernel_rfl))⟩,
 f23:=⟨Tryz.f191.name,by decide,Tryz.func191.trans (congrArg some (by kernel_rfl))⟩,
 f24:=⟨Tryz.f192.name,by decide,Tryz.func192.trans (congrArg some (by kernel_rfl))⟩,
 f25:=⟨Tryz.f193.name,by decide,Tryz.func193.trans (congrArg some (by kernel_rfl))⟩,
 f26:=⟨Tryz.f194.name,by decide,Tryz.func194.trans (congrArg some (by kernel_rfl))⟩,
 f27:=⟨Tryz.f195.name,by decide,Tryz.func195.trans (congrArg some (by kernel_rfl))⟩,
 f28:=Tryz.func168.trans (congrArg some (by kernel_rfl)),
 f29:=Tryz.func169.trans (congrArg some (by kernel_rfl)),
 f46:=⟨Tryz.f199.name,by decide,Tryz.func199.trans (congrArg some (by kernel_rfl))⟩,
 f47:=Tryz.func183.trans (congrArg some (by kernel_rfl)),
 f48:=Tryz.func184.trans (congrArg some (by kernel_rfl)),
 f49:=⟨Tryz.f200.name,by decide,Tryz.func200.trans (congrArg some (by kernel_rfl))⟩,
 f50:=⟨Tryz.f201.name,by decide,Tryz.func201.trans (congrArg some (by kernel_rfl))⟩,
 f57:=⟨Tryz.f202.name,by decide,Tryz.func202.trans (congrArg some (by kernel_rfl))⟩,
 t0:=Tryz.underlying0,
 a0:=Tryz.isAgg0,
 z0:=Tryz.sizeOf0,
 v0:=Tryz.zeroValue0,
 t3:=Tryz.underlying3,
 a3:=Tryz.isAgg3,
 z3:=Tryz.sizeOf3,
 v3:=Tryz.zeroValue3,
 t4:=Tryz.underlying4,
 a4:=Tryz.isAgg4,
 z4:=Tryz.sizeOf4,
 v4:=Tryz.zeroValue4,
 t5:=Tryz.underlying5,
 a5:=Tryz.isAgg5,
 z5:=Tryz.sizeOf5,
 v5:=Tryz.zeroValue5,
 t9:=Tryz.underlying9,
 a9:=Tryz.isAgg9,
 z9:=Tryz.sizeOf9,
 v9:=Tryz.zeroValue9,
 t22:=Tryz.underlying37,
 a22:=Tryz.isAgg37,
 z22:=Tryz.sizeOf37,
 v22:=Tryz.zeroValue37,
 t25:=Tryz.underlying230,
 a25:=Tryz.isAgg230,
 z25:=Tryz.sizeOf230,
 v25:=Tryz.zeroValue230,
 t39:=Tryz.underlying171,
 a39:=Tryz.isAgg171,
 z39:=Tryz.sizeOf171,
 v39:=Tryz.zeroValue171,
 t45:=Tryz.underlying257,
 a45:=Tryz.isAgg257,
 z45:=Tryz.sizeOf257,
 v45:=Tryz.zeroValue257,
 t46:=Tryz.underlying258,
 a46:=Tryz.isAgg258,
 z46:=Tryz.sizeOf258,
 v46:=Tryz.zeroValue258,
 t50:=Tryz.underlying243,
 a50:=Tryz.isAgg243,
 z50:=Tryz.sizeOf243,
 v50:=Tryz.zeroValue243,
 t53:=Tryz.underlying238,
 a53:=Tryz.isAgg238,
 z53:=Tryz.sizeOf238,
 v53:=Tryz.zeroValue238,
 t55:=Tryz.underlying38,
 a55:=Tryz.isAgg38,
 z55:=Tryz.sizeOf38,
 v55:=Tryz.zeroValue38,
 t66:=Tryz.underlying276,
 a66:=Tryz.isAgg276,
 z66:=Tryz.sizeOf276,
 v66:=Tryz.zeroValue276,
 t70:=Tryz.underlying280,
 a70:=Tryz.isAgg280,
 z70:=Tryz.sizeOf280,
 v70:=Tryz.zeroValue280,
 t76:=Tryz.underlying292,
 a76:=Tryz.isAgg292,
 z76:=Tryz.sizeOf292,
 v76:=Tryz.zeroValue292,
 t77:=Tryz.underlying293,
 a77:=Tryz.isAgg293,
 z77:=Tryz.sizeOf293,
 v77:=Tryz.zeroValue293}
end Go.Proofs.YtaellcgglldjaaaGreat

namespace Go.Proofs.YtaellcgglldjaaaGreat
open Go.RowKit
def u16G:Enc Int:=⟨1,fun x=>[.int .u16 x],fun _=>rfl,fun _ u hu=>by simp at hu;subst hu;rfl⟩
theorem aDz:cX Tryz.prog 24 84 (.int .u16 0) 1 2:=⟨Tryz.underlying24,by kernel_rfl,rfl,by decide⟩
theorem sW {w:World} {base n c:Nat} {a:Option Addr} {l:List Int} (h:Own u16G w base 84 (.slice a n c) l):Row16 w a l:=fun h0=>by
 have h':w.ownsRow base 84 1 (.slice a n c) l.length (l.flatMap u16G.cells):=h
 rcases h.2 with⟨hv,hz⟩|⟨g,cap,cur,hv,hb,hg,_⟩
 ·omega
 ·cases hv
  refine⟨g,0,rfl,lt_of_block hg,fun k hk=> ?_⟩
  have hf:(l.flatMap u16G.cells)[k]? =some (.int .u16 l[k]):=by
   have:=cD u16G l k _ (List.getElem?_eq_getElem hk) 0 (.int .u16 l[k]) rfl
   simpa [u16G] using this
  rw[Nat.zero_add]
  have:=h'.cellAt k (by omega)
  rw[this,hf]
theorem aJ0:Tryz.prog.underlying 160=some (.struct (Tryz.prog.fieldsOf 160)):=by kernel_rfl
theorem aDl:Tryz.prog.stoodInHeld 160=false:=by kernel_rfl
theorem aEm (d:Nat) (a b a2 b2 c e c2 e2:Int) (w:World):(Op.equalIn (d+5) 160 (.agg #[.int .i64 a, .int .i64 b, .int .i64 a2, .int .i64 b2]) (.agg #[.int .i64 c, .int .i64 e, .int .i64 c2, .int .i64 e2])).run Tryz.prog w= .ok ((a==c&&b==e)&&(a2==c2&&b2==e2)) w:=by
 rw[run_equalIn_struct w (d+4) 160 _ _ aJ0 aDl]
 have h1:=jX (d+1) a b c e
 have h2:=jX (d+1) a2 b2 c2 e2
 cases h:(a==c&&b==e)<;>cases h':(a2==c2&&b2==e2)<;>simp[go_sem,h1,h2,h,h']
theorem aAt {w:World} {base n c:Nat} {e:TypeId} {a:Option Addr} {l:List (aB×aB)} {j:Nat} {q:aB×aB} (h:Own bV w base e (.slice a n c) l) (hj:l[j]? =some q):
  ∃g,a=some ⟨g,0,none⟩∧g<w.heap.size∧(w.cell? ⟨g,j*4,none⟩=some (.int .i64 q.1.1)∧w.cell? ⟨g,j*4+1,none⟩=some (.int .i64 q.1.2)∧w.cell? ⟨g,j*4+2,none⟩=some (.int .i64 q.2.1)∧w.cell? ⟨g,j*4+3,none⟩=some (.int .i64 q.2.2)):=by
 obtain⟨hjl,rfl⟩:=List.getElem?_eq_some_iff.1 hj
 rcases h.2 with⟨hv,h0⟩|⟨g,cap,cur,hv,hb,hg,_⟩
 ·omega
 ·cases hv
  refine⟨g,rfl,lt_of_block hg,?_⟩
  have:=h.reads.pairs.2 j hjl
  simpa using this
end Go.Proofs.YtaellcgglldjaaaGreat

