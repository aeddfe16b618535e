/- Part of a proof: LayG HierM HierI FloodF. -/
import Derived.Shelf.Lays8
import Derived.Test.YtaellcgglldjaaaGreatHq01
import Derived.Test.YtaellcgglldjaaaGreatHq20
import Derived.Test.YtaellcgglldjaaaGreatHq12
import Derived.Shelf.Spec.SlicesGrow
import Derived.Test.YtaellcgglldjaaaGreatHq23
import Derived.BigRegion
set_option linter.all false
set_option linter.unusedVariables false
set_option linter.unusedSimpArgs false
namespace Go.Proofs.YtaellcgglldjaaaGreat
open Go.Shelf Go.RowKit
def aEz:Go.Shelf.Ren:=⟨fun|4=>196|n=>n,fun|0=>0|2=>3|3=>3|4=>4|9=>9|20=>20|22=>37|25=>28|n=>n,fun n=>n⟩
theorem aJ7:Lays8.n4 Tryz.prog aEz:={
 mixed:=by kernel_rfl,
 f4:=⟨Tryz.f196.name,by decide,Tryz.func196.trans (congrArg some (by kernel_rfl))⟩,
 t0:=Tryz.underlying0,
 a0:=Tryz.isAgg0,
 z0:=Tryz.sizeOf0,
 v0:=Tryz.zeroValue0,
 t3:=Tryz.underlying3,
 a3:=Tryz.isAgg3,
 z3:=Tryz.sizeOf3,
 v3:=Tryz.zeroValue3,
 t4:=Tryz.underlying4,
 a4:=Tryz.isAgg4,
 z4:=Tryz.sizeOf4,
 v4:=Tryz.zeroValue4,
 t9:=Tryz.underlying9,
 a9:=Tryz.isAgg9,
 z9:=Tryz.sizeOf9,
 v9:=Tryz.zeroValue9,
 t20:=Tryz.underlying20,
 a20:=Tryz.isAgg20,
 z20:=Tryz.sizeOf20,
 v20:=Tryz.zeroValue20,
 t22:=Tryz.underlying37,
 a22:=Tryz.isAgg37,
 z22:=Tryz.sizeOf37,
 v22:=Tryz.zeroValue37}
end Go.Proofs.YtaellcgglldjaaaGreat

namespace Go.Proofs.YtaellcgglldjaaaGreat
open Go.RowKit
theorem aC1 {α:Type} {E:Enc α} {w:World} {base:Nat} {e:TypeId} {a:Option Addr} {n c:Nat} {l:List α} (h:Own E w base e (.slice a n c) l):n≤c:=by
 rcases h.2 with⟨hv,h0⟩|⟨g,cap,cur,hv,hb,hg,hle,_⟩
 ·cases hv;omega
 ·cases hv;exact hle
theorem aAx {w:World} {g c:Nat} {PP:List aB} (hk:PP.length≤c) (h:Reads cellE w (.slice (some ⟨g,0,none⟩) PP.length c) PP):Reads cellE w (.slice (if c=1 then some ⟨g,0,none⟩ else some ⟨g,2,none⟩) (PP.length-1) (c-1)) (PP.drop 1):=by
 obtain⟨hz,_,hc⟩:=Reads.cells h
 by_cases e:c=1
 ·rw[if_pos e]
  have hl:PP.drop 1=[]:=List.drop_eq_nil_of_le (by omega)
  refine .inr ⟨g,0,c-1,by rw[List.length_drop],hz,fun k a h=> ?_⟩
  rw[hl]at h
  simp at h
 ·rw[if_neg e]
  refine .inr ⟨g,2,c-1,by rw[List.length_drop],hz,fun k a h j u hu=> ?_⟩
  have h1:=hc (k+1) a (by rw[List.getElem?_drop,Nat.add_comm]at h;exact h) j u hu
  rw[show 2+(k*cellE.size+j)=0+((k+1)*cellE.size+j) by show 2+(k*2+j)=0+((k+1)*2+j);omega]
  exact h1
theorem aHq (n:Nat) (hn:n≤1000000) (w:World):Calls Tryz.prog 196 #[.slice none 0 0, .int .i64 (n:Int)] w fun e w'=> ∃v,e= .returned v∧Ext w w'∧Own cellE w' w.heap.size 28 v []:=by
 by_cases h0:n=0
 ·subst h0
  refine(Any8.slices_Grow_room aJ7 none 0 0 0 w (by omega) (by omega) (by omega) (by omega)).mono ?_
  rintro e w' ⟨rfl,rfl⟩
  exact⟨_,rfl,Ext.refl _,Own.nil _ _ _ _⟩
 ·obtain⟨i0,hi,hz0,hz1,hz2⟩:=info_parts T_cells.info
  refine(Any8.slices_Grow_grow aJ7 i0 _ hi hz0 (by rw[hz1];decide) none 0 0 n [] w (by omega) (by omega) (by rw[hz2];omega) (by omega) (by simp) (fun _=>rfl) (fun a h=>by cases h)).mono ?_
  rintro e w' ⟨rfl,rfl⟩
  have h1:=grownCap_ge w (0+n) 0 28
  have h2:=grownCap_le_maxLen w (0+n) 0 28 (by unfold maxLen;omega)
  refine⟨_,rfl,((Ext.refl _).drew).alloc _,by simp, .inr ⟨w.heap.size,_,_,rfl,Nat.le_refl _,heap_alloc_new w.drew _,Nat.zero_le _,h2,?_,by simp⟩⟩
  show(#[]++Builtin.zeroCells _ (0+n-0)++Builtin.zeroCells _ (grownCap w (0+n) 0 28-(0+n))).size=grownCap w (0+n) 0 28*2
  rw[Array.size_append,Array.size_append,size_zeroCells,size_zeroCells]
  have h3:(Value.agg #[.int .i64 0, .int .i64 0]).cells.size=2:=rfl
  rw[h3]
  simp only[Nat.zero_add]at h1
  simp
  omega
def aDo {α:Type} (a b:List α) (k:Nat):List α:=if k=0 then[] else if k=1 then a else a++b
set_option maxRecDepth 100000 in
set_option maxHeartbeats 1000000 in
theorem rY {w:World} {sb:Nat} {a b:Option Addr} {na nb ca cb:Nat} {A B:List aB} (hs:Blk w sb 37 #[.slice a na ca, .slice b nb cb]) (hA:Reads cellE w (.slice a na ca) A) (hB:Reads cellE w (.slice b nb cb) B) (hla:A.length≤100000) (hlb:B.length≤100000):
  Calls Tryz.prog 178 #[.slice (some ⟨sb,0,none⟩) 2 2] w fun e w'=> ∃v,e= .returned v∧Ext w w'∧Own cellE w' w.heap.size 28 v (A++B):=by
 have HS:=aA hs
 have RA:=aA hA
 have RB:=aA hB
 have hna:na=A.length:=by obtain⟨_,_,h⟩:=hA.slice;injection h
 have hnb:nb=B.length:=by obtain⟨_,_,h⟩:=hB.slice;injection h
 have LA:=aA hna.symm
 have LB:=aA hnb.symm
 rw[←hna]at hla
 rw[←hnb]at hlb
 have HG:=aA (aHq (na+nb) (by omega) w)
 obtain⟨ns,hns⟩: ∃z:Nat,na+nb=z:=⟨_,rfl⟩
 have HNS:=aA hns
 rw[hns]at HG
 have hns2:ns≤200000:=by omega
 have k1:IntKind.i64.wrap (0+(na:Int))=(na:Int):=by rw[IntWalk.i64_in _ (by omega)];omega
 have k2:IntKind.i64.wrap ((na:Int)+(nb:Int))=(ns:Int):=by rw[IntWalk.i64_in _ (by omega)];omega
 have s0:=hs.at 0 rfl
 have s1:=hs.at 1 rfl
 have sz:=hs.lt
 clear hs hA hB hns hna hnb
 go_enter Tryz.func178,Tryz.ntmps178
 go_wp2_with fail
 go_loopw [3,11] (fun sv iv wr=>wr=w∧ ∃k:Nat,k≤2∧iv= .int .i64 (k:Int)∧sv= .int .i64 (if k=0 then 0 else if k=1 then(na:Int) else(ns:Int))) (fun _ iv _=>2-(intOf iv).toNat)
 case atStart=>exact⟨rfl,0,Nat.zero_le _,rfl,rfl⟩
 case round=>
  obtain⟨hw,k,hk,rfl,rfl⟩:=hrel
  subst hw
  obtain⟨wB,rfl⟩: ∃z,z=wr:=⟨_,rfl⟩
  rcases (by omega:k=0∨k=1∨k=2) with rfl|rfl|rfl
  ·simp only[if_pos]
   go_wp2_with fail
   go_roundw
   case rel=>exact⟨by first|trivial|rfl,1,by omega,rfl,by simp⟩
   case measure=>simp[intOf]
  ·simp only[if_pos,Nat.one_ne_zero,if_false]
   have g1: ¬((ns:Int)<0):=by omega
   go_wp2_with fail
   go_roundw
   case rel=>exact⟨by first|trivial|rfl,2,by omega,rfl,by simp⟩
   case measure=>simp[intOf]
  ·have e0:(if(2:Nat)=0 then(0:Int) else if(2:Nat)=1 then(na:Int) else(ns:Int))=(ns:Int):=rfl
   rw[e0]
   clear e0
   go_wp2_with fail
   refine(HG.out).mono ?_
   rintro e w1 ⟨v1,rfl,x1,o1⟩
   have O1:=aA o1
   have X1:=aA x1
   obtain⟨a1,c1,rfl⟩:=o1.slice
   clear o1 x1 s0 s1 sz
   go_wp2_with fail
   go_loopw [6,27] (fun ov iv wq=> ∃k:Nat,k≤2∧iv= .int .i64 (k:Int)∧Own cellE wq wB.heap.size 28 ov (aDo A B k)∧Ext wB wq) (fun _ iv _=>2-(intOf iv).toNat)
   case atStart=>exact⟨0,Nat.zero_le _,rfl,O1.out,X1.out⟩
   case round=>
    obtain⟨k,hk,rfl,ho,hx⟩:=hrel
    have OQ:=aA ho
    have XQ:=aA hx
    have SQ:=aA (HS.out.ext hx)
    have zq:=hx.size
    obtain⟨oa,oc,rfl⟩:=ho.slice
    clear ho hx
    have s0:=SQ.out.at 0 rfl;have s1:=SQ.out.at 1 rfl;have sz:=SQ.out.lt
    rcases (by omega:k=0∨k=1∨k=2) with rfl|rfl|rfl
    ·go_wp2_with (at_builtin;refine dJ cellE T_cells rfl _ _ rfl wB.heap.size _ [] A rfl OQ.out _ rfl (RA.out.ext XQ.out) (by rw[LA.out];simp;omega) (by rw[LA.out];simp;omega) zq ?_;intro v9 w9 o9 t9 l9;have O9:=aA o9;have X9:=aA (XQ.out.of_below (t9.to_below (B:=wB.heap.size) zq (fun k hk=>(aK OQ.out hk).1)) (Nat.le_refl _));clear o9 t9 l9)
     go_roundw
     case rel=>exact⟨1,by omega,rfl,O9.out,X9.out⟩
     case measure=>simp[intOf]
    ·have hl1:(aDo A B 1).length=na:=by rw[show aDo A B 1=A from rfl,LA.out]
     have HL1:=aA hl1
     rw[hl1]at OQ⊢
     clear hl1
     go_wp2_with (at_builtin;refine dJ cellE T_cells rfl _ _ rfl wB.heap.size _ A B rfl OQ.out _ rfl (RB.out.ext XQ.out) (by rw[LA.out,LB.out];omega) (by rw[LA.out,LB.out];omega) zq ?_;intro v9 w9 o9 t9 l9;have O9:=aA o9;have X9:=aA (XQ.out.of_below (t9.to_below (B:=wB.heap.size) zq (fun k hk=>(aK OQ.out hk).1)) (Nat.le_refl _));clear o9 t9 l9)
     go_roundw
     case rel=>exact⟨2,by omega,rfl,O9.out,X9.out⟩
     case measure=>simp[intOf]
    ·obtain⟨no,hno⟩: ∃z,(aDo A B 2).length=z:=⟨_,rfl⟩
     rw[hno]at OQ⊢
     clear hno
     go_wp2_with fail
     go_ret
     exact⟨_,rfl,XQ.out,OQ.out⟩
theorem zZ {w:World} {b:Nat} (x:Value) (y:Value) (h:b=w.heap.size):Blk (w.alloc (.cells #[x,y] 37)) b 37 #[x,y]:=by subst h;exact Blk.new _ _ _
set_option maxRecDepth 100000 in
set_option maxHeartbeats 1000000 in
theorem aHx {w:World} {ga gb ca cb na nb:Nat} {base base':Nat} {A B:List aB} {q:aB} (hA:Own cellE w base 28 (.slice (some ⟨ga,0,none⟩) na ca) A) (hB:Own cellE w base' 28 (.slice (some ⟨gb,0,none⟩) nb cb) B) (ha:A.getLast? =some q) (hb:B.head? =some q) (hla:A.length≤100000) (hlb:B.length≤100000):
  Calls Tryz.prog 149 #[.slice (some ⟨ga,0,none⟩) na ca, .slice (some ⟨gb,0,none⟩) nb cb] w fun e w'=> ∃v,e= .returned (.tuple #[v, .int .i64 0])∧Ext w w'∧Own cellE w' w.heap.size 28 v (A++B.drop 1):=by
 have OA:=aA hA
 have OB:=aA hB
 have hna:na=A.length:=by obtain⟨_,_,h⟩:=hA.slice;injection h
 have hnb:nb=B.length:=by obtain⟨_,_,h⟩:=hB.slice;injection h
 have kcb:nb≤cb:=aC1 hB
 have hA1:A[na-1]? =some q:=by rw[hna,←List.getLast?_eq_getElem?];exact ha
 have hB0:B[0]? =some q:=by rw[←List.head?_eq_getElem?];exact hb
 have ga0:=(List.getElem?_eq_some_iff.1 hA1).1
 have gb0:=(List.getElem?_eq_some_iff.1 hB0).1
 obtain⟨_,_,e,hza,a0,a1⟩:=mF hA.reads hA1
 cases e
 obtain⟨_,_,e,hzb,b0,b1⟩:=mF hB.reads hB0
 cases e
 have LA:=aA hna
 have LB:=aA hnb
 obtain⟨nq,rfl⟩: ∃z,na=z+1:=⟨na-1,by omega⟩
 rw[Nat.add_sub_cancel]at a0 a1
 have k1:IntKind.i64.wrap (((nq+1:Nat):Int)-1)=(nq:Int):=by rw[IntWalk.i64_in _ (by omega)];omega
 have k2:IntKind.i64.wrap ((nq:Int)+1-1)=(nq:Int):=by rw[IntWalk.i64_in _ (by omega)];omega
 have k3:IntKind.i64.wrap (nq:Int)=(nq:Int):=IntWalk.i64_in _ (by omega)
 have hnz: ¬((nq:Int)+1=0):=by omega
 have hnzb: ¬(nb:Int)=0:=by omega
 have hb1:((nq:Int)+1==0)=false:=by simpa using hnz
 have hb2:((nb:Int)==0)=false:=by simpa using hnzb
 have jq:(nq:Int)<(nq:Int)+1:=by omega
 have hq0:(0:Int)≤(nq:Int):=by omega
 have jb:(1:Int)≤(nb:Int):=by omega
 have jb0:(0:Int)<(nb:Int):=by omega
 have jbn:0<nb:=by omega
 obtain⟨qx,qy⟩:=q
 have HEQ:=fun(w:World)=>bJ (qx,qy) (qx,qy) w
 rw[show eL (qx,qy) (qx,qy)=true by simp[eL]]at HEQ
 simp only at a0 a1 b0 b1 HEQ
 simp only[Nat.zero_add,Nat.zero_mul]at a0 a1 b0 b1
 clear hA hB ha hb hA1 hB0 ga0 gb0 hna hnb
 go_enter Tryz.func149,Tryz.ntmps149
 go_wp2_with fail
 refine aJ (S:=(fun W=>(∀b o,b<w.heap.size→W.cell? ⟨b,o,none⟩=w.cell? ⟨b,o,none⟩)∧Ext w W)) [(0,true),(1,true),(2,true),(3,true),(4,true),(5,true),(6,true),(7,true),(8,true),(9,true),(10,true),(11,true),(12,true),(13,true),(14,true),(15,true),(16,true),(17,true),(18,true),(19,true)] (by kernel_rfl) (by kernel_rfl) (by kernel_rfl) (by decide) (fun _ _ d _ _ h=>by cases d<;>exact h) (by first|with_reducible exact aM _|exact aG z_x) (fun hHeld=> ?_)
 iterate 20 (refine SeqH.fr1 ?_;try simp only[Act.put,z_3,z_4,z_5])
 refine SeqH.done ?_
 have XE:=aA hHeld.2
 clear hHeld
 have RV0:=(OB.out.ext XE.out).reads
 rw[LB.out]at RV0
 have RV:=aA (aAx (by rw[←LB.out];exact kcb) RV0)
 rw[←LB.out]at RV
 clear RV0
 have OA2:=aA (OA.out.ext XE.out)
 clear OB LA LB hb1 hb2 k1 k2 k3 hnz hnzb jq hq0 jb0 a0 a1 b0 b1 HEQ OA
 have XW:=aA (Ext.refl w).drew
 by_cases hcb:cb=1
 ·obtain rfl:=hcb
  obtain rfl:nb=1:=by omega
  rw[if_pos rfl]at RV
  simp only[Nat.sub_self]at RV
  go_wp2_with fail
  refine(rY (A:=A) (B:=B.drop 1) (zZ _ _ rfl) ((OA2.out.ext ((Ext.refl _).alloc _)).reads) (RV.out.ext ((Ext.refl _).alloc _)) hla (by rw[List.length_drop];omega)).mono ?_
  rintro e w5 ⟨v,rfl,x5,o5⟩
  have X5:=aA ((XW.out.alloc _).trans x5)
  have O5:=aA (o5.lower (base':=w.heap.size) (by simp))
  clear x5
  obtain⟨va,vc,rfl⟩:=o5.slice
  clear o5
  go_wp2_with fail
  exact bodyPost_ret (v:= .tuple #[.slice va (A++B.drop 1).length vc, .int .i64 0]) (by simp[results,Tryz.results149,go_sem, *]) rfl ⟨_,rfl,X5.out,O5.out⟩
 ·rw[if_neg hcb]at RV
  go_wp2_with fail
  refine(rY (A:=A) (B:=B.drop 1) (zZ _ _ rfl) ((OA2.out.ext ((Ext.refl _).alloc _)).reads) (RV.out.ext ((Ext.refl _).alloc _)) hla (by rw[List.length_drop];omega)).mono ?_
  rintro e w5 ⟨v,rfl,x5,o5⟩
  have X5:=aA ((XW.out.alloc _).trans x5)
  have O5:=aA (o5.lower (base':=w.heap.size) (by simp))
  clear x5
  obtain⟨va,vc,rfl⟩:=o5.slice
  clear o5
  go_wp2_with fail
  exact bodyPost_ret (v:= .tuple #[.slice va (A++B.drop 1).length vc, .int .i64 0]) (by simp[results,Tryz.results149,go_sem, *]) rfl ⟨_,rfl,X5.out,O5.out⟩
end Go.Proofs.YtaellcgglldjaaaGreat

namespace Go.Proofs.YtaellcgglldjaaaGreat
open Go.RowKit
set_option maxRecDepth 100000 in
set_option maxHeartbeats 1000000 in
theorem aF4 {w:World} {sb lb:Nat} {p:Spot} {R:Nat→Prop} {W H s:Int} {l:List Int} {fa:Option Addr} {fc:Nat} {ga:Option Addr} {gc:Nat} {f t:aB} (h:HLand w lb p R W H s l fa fc ga gc f t) (hsl:w.cell? ⟨sb,0,none⟩=some (.pointer (some ⟨lb,0,none⟩))) (hsb:sb<w.heap.size) (a c:aB) (x:Int) (ha:inB W H a.1 a.2=true) (hc:inB W H c.1 c.2=true) (hne:ofN W s a.1 a.2≠ofN W s c.1 c.2):
  Calls Tryz.prog 150 #[.pointer (some ⟨sb,0,none⟩),bX a c x] w fun e w'=> ∃v,e= .returned v∧Ext w w'∧Own cellE w' w.heap.size 28 v [a,c]:=by
 have hr:=h.good.right
 obtain⟨ax,ay⟩:=a
 obtain⟨cx,cy⟩:=c
 simp only at ha hc hne
 have HOA:=aA (fun(w':World)=>fQ W H s ax ay w' hr ha)
 have HOC:=aA (fun(w':World)=>fQ W H s cx cy w' hr hc)
 have B:=aA h.blk
 unfold dV at B
 obtain⟨i1,hi1⟩: ∃z,ofN W s ax ay=z:=⟨_,rfl⟩
 obtain⟨i2,hi2⟩: ∃z,ofN W s cx cy=z:=⟨_,rfl⟩
 rw[hi1]at HOA hne
 rw[hi2]at HOC hne
 have HSL:=aA (fun(w':World) (x:Ext w w')=>(show w'.cell? ⟨sb,0,none⟩=some (.pointer (some ⟨lb,0,none⟩))∧sb<w'.heap.size from⟨(x.cell (p:=⟨sb,0,none⟩) hsb).trans hsl,Nat.lt_of_lt_of_le hsb x.size⟩))
 obtain⟨n,hn⟩: ∃z,l.length=z:=⟨_,rfl⟩
 obtain⟨m,hm⟩: ∃z,(aI W H s l).length=z:=⟨_,rfl⟩
 rw[hn,hm]at B
 clear h hr ha hc hi1 hi2 hsl hsb hn hm
 unfold bX
 simp only
 have d1:(i1==i2)=false:=by simpa using hne
 go_enter Tryz.func150,Tryz.ntmps150
 go_upto_region 1 with(fail)
 obtain⟨w1,hw1⟩: ∃z,z=w.alloc (.cells #[.int .i64 ax, .int .i64 ay, .int .i64 cx, .int .i64 cy, .int .u64 x] 56):=⟨_,rfl⟩
 have X1:=aA (show Ext w w1 by rw[hw1];exact(Ext.refl _).alloc _)
 have L1:=aA (show Blk w1 w.heap.size 56 #[.int .i64 ax, .int .i64 ay, .int .i64 cx, .int .i64 cy, .int .u64 x] by rw[hw1];exact Blk.new_ rfl)
 rw[←hw1]
 have B1:=aA (B.out.ext X1.out)
 clear hw1
 obtain⟨s0,sz⟩:=HSL.out w1 X1.out
 have c0:=L1.out.at 0 rfl;have c1:=L1.out.at 1 rfl;have c2:=L1.out.at 2 rfl;have c3:=L1.out.at 3 rfl;have c4:=L1.out.at 4 rfl;have cz:=L1.out.lt
 have b0:=B1.out.at 0 rfl;have b1:=B1.out.at 1 rfl;have b2:=B1.out.at 2 rfl;have b3:=B1.out.at 3 rfl;have b4:=B1.out.at 4 rfl;have b5:=B1.out.at 5 rfl;have b6:=B1.out.at 6 rfl;have b7:=B1.out.at 7 rfl;have b8:=B1.out.at 8 rfl;have b9:=B1.out.at 9 rfl;have b10:=B1.out.at 10 rfl;have b11:=B1.out.at 11 rfl;have bz:=B1.out.lt
 refine aJ (S:=(fun W=>(∀b o,b<w1.heap.size→W.cell? ⟨b,o,none⟩=w1.cell? ⟨b,o,none⟩)∧Ext w1 W)) [(0,true),(1,true),(2,true),(3,true),(4,true),(5,true),(6,true),(7,true),(8,true),(9,false),(10,true),(11,true),(12,true),(13,true),(14,true)] (by kernel_rfl) (by kernel_rfl) (by kernel_rfl) (by decide) (fun _ _ d _ _ h=>by cases d<;>exact h) (by first|with_reducible exact aM _|exact aG z_x) (fun hHeld=> ?_)
 iterate 9 (refine SeqH.fr1 ?_;try simp only[Act.put,z_3,z_4,z_5])
 (apply SeqH.step;(·(simp only[z_0,z_1,z_2];rfl));intro K hK;go_simp;refine(HOA.out _).mono ?_;rintro e w3 ⟨rfl,x3⟩;go_wp2_with fail;refine hK.out _ _ (aG z_x) (fun hHeld=> ?_);clear hK K;try simp only[Act.put,z_3,z_4,z_5])
 iterate 5 (refine SeqH.fr1 ?_;try simp only[Act.put,z_3,z_4,z_5])
 refine SeqH.done ?_
 have XE:=aA hHeld.2
 clear hHeld x3 s0 sz c0 c1 c2 c3 c4 cz b0 b1 b2 b3 b4 b5 b6 b7 b8 b9 b10 b11 bz
 have X3:=aA (X1.out.trans XE.out)
 have L3:=aA (L1.out.ext XE.out)
 have B3:=aA (B.out.ext X3.out)
 clear XE
 obtain⟨s0,sz⟩:=HSL.out w3 X3.out
 have c0:=L3.out.at 0 rfl;have c1:=L3.out.at 1 rfl;have c2:=L3.out.at 2 rfl;have c3:=L3.out.at 3 rfl;have c4:=L3.out.at 4 rfl;have cz:=L3.out.lt
 have b0:=B3.out.at 0 rfl;have b1:=B3.out.at 1 rfl;have b2:=B3.out.at 2 rfl;have b3:=B3.out.at 3 rfl;have b4:=B3.out.at 4 rfl;have b5:=B3.out.at 5 rfl;have b6:=B3.out.at 6 rfl;have b7:=B3.out.at 7 rfl;have b8:=B3.out.at 8 rfl;have b9:=B3.out.at 9 rfl;have b10:=B3.out.at 10 rfl;have b11:=B3.out.at 11 rfl;have bz:=B3.out.lt
 go_upto_region 2 with(fail)
 refine aJ (S:=(fun W=>(∀b o,b<w3.heap.size→W.cell? ⟨b,o,none⟩=w3.cell? ⟨b,o,none⟩)∧Ext w3 W)) [(0,true),(1,true),(2,true),(3,true),(4,true),(5,true),(6,true),(7,true),(8,true),(9,false),(10,true),(11,true),(12,true),(13,true),(14,true)] (by kernel_rfl) (by kernel_rfl) (by kernel_rfl) (by decide) (fun _ _ d _ _ h=>by cases d<;>exact h) (by first|with_reducible exact aM _|exact aG z_x) (fun hHeld=> ?_)
 iterate 9 (refine SeqH.fr1 ?_;try simp only[Act.put,z_3,z_4,z_5])
 (apply SeqH.step;(·(simp only[z_0,z_1,z_2];rfl));intro K hK;go_simp;refine(HOC.out _).mono ?_;rintro e w5 ⟨rfl,x5⟩;go_wp2_with fail;refine hK.out _ _ (aG z_x) (fun hHeld=> ?_);clear hK K;try simp only[Act.put,z_3,z_4,z_5])
 iterate 5 (refine SeqH.fr1 ?_;try simp only[Act.put,z_3,z_4,z_5])
 refine SeqH.done ?_
 have XE:=aA hHeld.2
 clear hHeld x5 s0 sz c0 c1 c2 c3 c4 cz b0 b1 b2 b3 b4 b5 b6 b7 b8 b9 b10 b11 bz
 have X5:=aA (X3.out.trans XE.out)
 have L5:=aA (L3.out.ext XE.out)
 have z5:=X5.out.size
 clear XE
 have c0:=L5.out.at 0 rfl;have c1:=L5.out.at 1 rfl;have c2:=L5.out.at 2 rfl;have c3:=L5.out.at 3 rfl;have c4:=L5.out.at 4 rfl;have cz:=L5.out.lt
 go_wp2
 go_ret
 exact⟨_,rfl,X5.out.trans ((Ext.refl _).alloc _),yR w5 _ _ (ax,ay) (cx,cy) rfl z5⟩
end Go.Proofs.YtaellcgglldjaaaGreat

namespace Go.Proofs.YtaellcgglldjaaaGreat
open Go.RowKit
set_option maxRecDepth 100000 in
theorem aAi {w:World} {W H:Int} {a:Option Addr} {n c:Nat} {bx byy bw bh:Int} {bl bf bq g cg base:Nat} {far:Nat→Int} (cx cy want:Int)
  (ls:LandB bl W H a n c bx byy bw bh w) (hm:bM W H=true) (hn:(n:Int)=W*H) (fb:w.cell? ⟨bf,0,none⟩=some (.slice (some ⟨g,0,none⟩) n cg)) (fq:w.cell? ⟨bq,0,none⟩=some (.int .u64 want)) (fa:FarAt w base g cg far n)
  (h1:0≤cx) (h2:cx<W) (h3:0≤cy) (h4:cy<H) (zl:bl<w.heap.size) (zf:bf<w.heap.size) (zq:bq<w.heap.size):
  Calls Tryz.prog 123 #[.agg #[.int .i64 cx, .int .i64 cy], .pointer (some ⟨bf,0,none⟩), .pointer (some ⟨bl,0,none⟩), .pointer (some ⟨bq,0,none⟩)] w fun e w'=>e= .returned (.bool (decide (far (aC W (cx,cy))=want)))∧Ext w w':=by
 have hW:=mayB_true.1 hm
 obtain⟨j,hj⟩: ∃j,aC W (cx,cy)=j:=⟨_,rfl⟩
 have hji:=bP (W:=W) h1 (by omega) h3
 have ib:=iH h1 h2 h3 h4
 have hjn:j<n:=by omega
 have HA:=aA (fun w'=>mZ W H a n c bx byy bw bh cx cy w' hm h1 h2 h3 h4)
 rw[hj]at hji⊢
 rw[←hji]at HA
 have FJ:=(fa.cell hjn).1
 have zg:=fa.lt.2
 obtain⟨fj,hfj⟩: ∃fj,far j=fj:=⟨_,rfl⟩
 rw[hfj]at FJ⊢
 obtain⟨q0,q1,q2,q3,q4,q5,q6⟩:=ls
 have hji2:(j:Int)<(n:Int):=by omega
 clear hj hji ib hfj fa hm hn hW
 go_enter Tryz.func123,Tryz.ntmps123
 go_wp2_with fail
 obtain⟨w0,hw0⟩: ∃w0,w0=w.alloc (.cells #[.int .i64 cx, .int .i64 cy] 28):=⟨_,rfl⟩
 have hx0:Ext w w0:=by rw[hw0];exact z_x
 have z0:w.heap.size<w0.heap.size:=by rw[hw0];simp
 have p0:w0.cell? ⟨w.heap.size,0,none⟩=some (.int .i64 cx):=by rw[hw0];simp[go_sem]
 have p1:w0.cell? ⟨w.heap.size,1,none⟩=some (.int .i64 cy):=by rw[hw0];simp[go_sem]
 have r0:=(hx0.cell (p:=⟨bl,0,none⟩) zl).trans q0
 have r1:=(hx0.cell (p:=⟨bl,1,none⟩) zl).trans q1
 have r2:=(hx0.cell (p:=⟨bl,2,none⟩) zl).trans q2
 have r3:=(hx0.cell (p:=⟨bl,3,none⟩) zl).trans q3
 have r4:=(hx0.cell (p:=⟨bl,4,none⟩) zl).trans q4
 have r5:=(hx0.cell (p:=⟨bl,5,none⟩) zl).trans q5
 have r6:=(hx0.cell (p:=⟨bl,6,none⟩) zl).trans q6
 have s0:=(hx0.cell (p:=⟨bf,0,none⟩) zf).trans fb
 have s1:=(hx0.cell (p:=⟨bq,0,none⟩) zq).trans fq
 have s2:=(hx0.cell (p:=⟨g,j,none⟩) zg).trans FJ
 have y0:bl<w0.heap.size:=by omega
 have y1:bf<w0.heap.size:=by omega
 have y2:bq<w0.heap.size:=by omega
 have y3:g<w0.heap.size:=by omega
 rw[←hw0]
 clear hw0 q0 q1 q2 q3 q4 q5 q6 fb fq FJ zl zf zq zg
 refine wp_region_held_drew (S:=(fun W=>(∀b o,b<w0.heap.size→W.cell? ⟨b,o,none⟩=w0.cell? ⟨b,o,none⟩)∧Ext w0 W)) (by kernel_rfl) (by first|with_reducible exact aM _|exact aG z_x) (fun hHeld=> ?_)
 (((refine wpAnyH_take (i:=0) (oi:= ?g62_o) (v:= ?g62_v) ?g62_hi (by kernel_rfl) (by kernel_rfl) (by kernel_rfl) ?g62_hq ?g62_hy (by assumption) ?g62_gr;(case g62_hi=>(simp only[z_0,z_2];rfl));(case g62_hq=>exact fun _ _ _ h=>h);(case g62_hy=>(refine Or.inl ⟨by rfl,?_⟩;intro w hSw;(try dsimp only at hSw);go_simp;try with_reducible rfl));try simp only[Act.put,z_3,z_4,z_5]));((refine wpAnyH_take (i:=1) (oi:= ?g63_o) (v:= ?g63_v) ?g63_hi (by kernel_rfl) (by kernel_rfl) (by kernel_rfl) ?g63_hq ?g63_hy (by assumption) ?g63_gr;(case g63_hi=>(simp only[z_0,z_1,z_2];rfl));(case g63_hq=>exact fun _ _ _ h=>h);(case g63_hy=>(refine Or.inl ⟨by rfl,?_⟩;intro w hSw;(try dsimp only at hSw);go_simp;try with_reducible rfl));try simp only[Act.put,z_3,z_4,z_5]));((refine wpAnyH_take (i:=2) (oi:= ?g64_o) (v:= ?g64_v) ?g64_hi (by kernel_rfl) (by kernel_rfl) (by kernel_rfl) ?g64_hq ?g64_hy (by assumption) ?g64_gr;(case g64_hi=>(simp only[z_0,z_1,z_2];rfl));(case g64_hq=>exact fun _ _ _ h=>h);(case g64_hy=>(refine Or.inl ⟨by rfl,?_⟩;intro w hSw;(try dsimp only at hSw);go_simp;try with_reducible rfl));try simp only[Act.put,z_3,z_4,z_5]));((refine wpAnyH_take (i:=6) (oi:= ?g65_o) (v:= ?g65_v) ?g65_hi (by kernel_rfl) (by kernel_rfl) (by kernel_rfl) ?g65_hq ?g65_hy (by assumption) ?g65_gr;(case g65_hi=>(simp only[z_0,z_1,z_2];rfl));(case g65_hq=>exact fun _ _ _ h=>h);(case g65_hy=>(refine Or.inl ⟨by rfl,?_⟩;intro w hSw;(try dsimp only at hSw);go_simp;try with_reducible rfl));try simp only[Act.put,z_3,z_4,z_5])))
 (refine wpAnyH_ready (rs:=[3]) (by kernel_rfl) (by simp) ?_;refine AllReadyH.cons (o:= ?g66_o) ?g66_hi (fun K hK=> ?_) AllReadyH.nil;(case g66_hi=>(simp only[z_0,z_1,z_2];rfl));go_simp;refine(HA.out _).mono ?_;rintro e w2 ⟨rfl,hb2⟩;go_wp2_with fail;refine hK.out _ _ (aG z_x) (fun hHeld=> ?_);clear hK K;try simp only[Act.put,z_3,z_4,z_5])
 (((refine wpAnyH_take (i:=4) (oi:= ?g67_o) (v:= ?g67_v) ?g67_hi (by kernel_rfl) (by kernel_rfl) (by kernel_rfl) ?g67_hq ?g67_hy (by assumption) ?g67_gr;(case g67_hi=>(simp only[z_0,z_1,z_2];rfl));(case g67_hq=>exact fun _ _ _ h=>h);(case g67_hy=>(refine Or.inl ⟨by rfl,?_⟩;intro w hSw;(try dsimp only at hSw);go_simp;try with_reducible rfl));try simp only[Act.put,z_3,z_4,z_5]));((refine wpAnyH_take (i:=5) (oi:= ?g68_o) (v:= ?g68_v) ?g68_hi (by kernel_rfl) (by kernel_rfl) (by kernel_rfl) ?g68_hq ?g68_hy (by assumption) ?g68_gr;(case g68_hi=>(simp only[z_0,z_1,z_2];rfl));(case g68_hq=>exact fun _ _ _ h=>h);(case g68_hy=>(refine Or.inl ⟨by rfl,?_⟩;intro w hSw;(try dsimp only at hSw);go_simp;try with_reducible rfl));try simp only[Act.put,z_3,z_4,z_5]));((refine wpAnyH_take (i:=7) (oi:= ?g69_o) (v:= ?g69_v) ?g69_hi (by kernel_rfl) (by kernel_rfl) (by kernel_rfl) ?g69_hq ?g69_hy (by assumption) ?g69_gr;(case g69_hi=>(simp only[z_0,z_1,z_2];rfl));(case g69_hq=>exact fun _ _ _ h=>h);(case g69_hy=>(refine Or.inl ⟨by rfl,?_⟩;intro w hSw;(try dsimp only at hSw);go_simp;try with_reducible rfl));try simp only[Act.put,z_3,z_4,z_5]));((refine wpAnyH_take (i:=8) (oi:= ?g70_o) (v:= ?g70_v) ?g70_hi (by kernel_rfl) (by kernel_rfl) (by kernel_rfl) ?g70_hq ?g70_hy (by assumption) ?g70_gr;(case g70_hi=>(simp only[z_0,z_1,z_2];rfl));(case g70_hq=>exact fun _ _ _ h=>h);(case g70_hy=>(refine Or.inl ⟨by rfl,?_⟩;intro w hSw;(try dsimp only at hSw);go_simp;try with_reducible rfl));try simp only[Act.put,z_3,z_4,z_5])))
 refine wpAnyH_done (by kernel_rfl) ?_ _
 have hx:=hx0.trans hHeld.2
 go_wp2_with fail
 go_ret
 exact⟨by congr 1,hx⟩
end Go.Proofs.YtaellcgglldjaaaGreat

