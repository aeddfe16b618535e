/- Part of a proof: StarE StarF StarG. -/
import Derived.Test.YtaellcgglldjaaaGreatHierFindsQ36
import Derived.Test.YtaellcgglldjaaaGreatHierFindsQ18
import Derived.Test.YtaellcgglldjaaaGreatHierFindsQ01
set_option linter.all false
set_option linter.unusedVariables false
set_option linter.unusedSimpArgs false
namespace Go.Proofs.YtaellcgglldjaaaGreat
open Go.RowKit
def KU:MapK:=⟨105,3,38, .i64, .u64⟩
theorem gB:KU.Ok Tryz.prog:=⟨Tryz.underlying105,Tryz.underlying3,Tryz.underlying38,fun _=>by kernel_rfl⟩
theorem MapIn.get_run {P:Program} {K:MapK} {w:World} {b N:Nat} {f:Int→Option Int} (O:K.Ok P) (h:MapIn P K w b f N) {k c:Int} (hk:bN K.qk k) (hc:f k=some c):(Instr.lookup K.tm (.map (some b)) (.int K.qk k) false).run P w= .ok (.int K.qe c) w:=by
 obtain⟨D,h1,h2,h3⟩:=h
 obtain⟨c',hrun,hat,_⟩:=h1.lookup_int (Maps.int_keyed O.key) O.under O.elem (O.zero w) (Maps.keyOf_int_mk O.key hk)
 rw[(h3 k).2 c hc]at hat
 have e:c=c':=by simpa using hat
 subst e
 exact hrun
set_option maxRecDepth 100000 in
theorem aAf {w:World} {sb:Nat} {W H:Int} {a:Option Addr} {n c:Nat} {tx ty:Int} {h mg mc:Nat} {k:Int} (S:iH w sb W H a n c tx ty h mg mc k) (x y g:Int) (hx:0≤x∧x≤1000) (hy:0≤y∧y≤1000) (htx:0≤tx∧tx≤1000) (hty:0≤ty∧ty≤1000) (hg:0≤g∧g≤1000000000000):
  Calls Tryz.prog 105 #[.pointer (some ⟨sb,0,none⟩), .agg #[.int .i64 x, .int .i64 y], .int .u64 g] w fun e w'=>e= .returned (eX ((g+dN x y tx ty,dN x y tx ty),(y,x)))∧Ext w w':=by
 have hb:=aLh hx hy htx hty
 have H1:=aA (fun w'=>aG9 x y tx ty w' hx hy htx hty)
 generalize dN x y tx ty=m at *
 have q3:w.cell? ⟨sb,3,none⟩=some (.int .i64 tx):=S.at 3 rfl
 have q4:w.cell? ⟨sb,4,none⟩=some (.int .i64 ty):=S.at 4 rfl
 have hz:=Blk.lt S
 have k1:IntKind.u64.wrap m=m:=by rw[IntKind.wrap_u64];omega
 have k2:IntKind.u64.wrap (g+m)=g+m:=by rw[IntKind.wrap_u64];omega
 clear S hx hy htx hty
 unfold eX
 simp only
 go_enter Tryz.func105,Tryz.ntmps105
 go_wp2_with fail
 obtain⟨w1,hw1⟩: ∃w1,w1=(w.alloc (.cells #[.int .i64 x, .int .i64 y] 28)).alloc (.cells #[.int .u64 0, .int .u64 0, .int .i64 0, .int .i64 0] 181):=⟨_,rfl⟩
 have hx1:Ext w w1:=by rw[hw1];exact z_x
 have B:=aA (show Blk w1 w.heap.size 28 #[.int .i64 x, .int .i64 y] by rw[hw1];exact(Blk.new_ rfl).over)
 have B2:=aA (show Blk w1 (w.heap.size+1) 181 #[.int .u64 0, .int .u64 0, .int .i64 0, .int .i64 0] by rw[hw1];exact Blk.new_ (by simp))
 have q3:=(hx1.cell (p:=⟨sb,3,none⟩) hz).trans q3
 have q4:=(hx1.cell (p:=⟨sb,4,none⟩) hz).trans q4
 have hz1:=Nat.lt_of_lt_of_le hz hx1.size
 rw[←hw1]
 have b0:=B.out.at 0 rfl;have b1:=B.out.at 1 rfl;have bz:=B.out.lt
 clear hw1
 refine aS w1 [(0,true),(1,true),(2,true),(3,true),(4,true),(5,false),(6,true),(7,true),(8,true),(9,true),(10,true)] (fun hK0=> ?_)
 iterate 5 (refine SeqH.fr1 ?_;try simp only[zz])
 (refine aP ?_;intro K hK;go_simp;refine(H1.out _).mono ?_;rintro e w2 ⟨rfl,hb2⟩;go_wp2_with fail;refine hK.out _ _ (aI z_x) (fun hK0=> ?_);clear hK K;try simp only[zz])
 iterate 5 (refine SeqH.fr1 ?_;try simp only[zz])
 refine SeqH.done ?_
 have hx2:=hK0.2
 have c0:=(hx2.cell (p:=⟨w.heap.size,0,none⟩) bz).trans b0
 have c1:=(hx2.cell (p:=⟨w.heap.size,1,none⟩) bz).trans b1
 have K2:=B2.out.ext hx2
 have d0:=K2.at 0 rfl
 have d1:=K2.at 1 rfl
 have d2:=K2.at 2 rfl
 have d3:=K2.at 3 rfl
 have e0:=K2.frozen 0
 have e1:=K2.frozen 1
 have e2:=K2.frozen 2
 have e3:=K2.frozen 3
 have HX:=aA (hx1.trans hx2)
 clear hK0 hb2 hx2 hx1 b0 b1 q3 q4 K2
 go_wp2_with fail
 have hxx:=HX.out
 exact bodyPost_ret (v:= .agg #[.int .u64 (g+m), .int .u64 m, .int .i64 y, .int .i64 x]) (by simp[results,Tryz.results105,go_sem, *]) rfl ⟨rfl,(((hxx.setCell (by simp) _).setCell (by simp) _).setCell (by simp) _).setCell (by simp) _⟩
theorem aHu {w:World} {bp sb:Nat} {W H:Int} {a:Option Addr} {l:List Int} {c:Nat} {tx ty:Int} {h mg mc:Nat} {k:Int} (hbp:w.cell? ⟨bp,0,none⟩=some (.pointer (some ⟨sb,0,none⟩))) (S:iH w sb W H a l.length c tx ty h mg mc k) (hm:bW W H=true) (hl:(l.length:Int)=W*H) (hr:Row16 w a l) (hu:cV l) (x y:Int) (h1:0≤x) (h2:x<W) (h3:0≤y) (h4:y<H):
  Calls Tryz.prog 108 #[.agg #[.int .i64 x, .int .i64 y], .pointer (some ⟨bp,0,none⟩)] w fun e w'=>e= .returned (.bool (decide (aL l W (x,y)=0)))∧Ext w w':=by
 have HC:=aA (fun(w':World) (hx:Ext w w')=>qO (Blk.ext S hx) hm hl (hr.ext hx) hu x y h1 h2 h3 h4)
 have hz:=World.block_lt_of_cell? w _ hbp
 have hz':bp<w.heap.size:=hz
 generalize aL l W (x,y)=cst at *
 have e0:(cst==0)=decide (cst=0):=rfl
 have HE:=aA e0
 clear S hm hl hr hu h1 h2 h3 h4 e0 hz
 go_enter Tryz.func108,Tryz.ntmps108
 go_wp2_with (go_at_call 59;refine(HC.out _ z_x).mono ?_;rintro e w2 ⟨rfl,hb2⟩)
 go_ret
 exact⟨by congr 1,z_x⟩
set_option maxRecDepth 100000 in
theorem aHt {w:World} {sb:Nat} {W H:Int} {a:Option Addr} {n c:Nat} {tx ty:Int} {h mg mc:Nat} {k:Int} (S:iH w sb W H a n c tx ty h mg mc k) {came:Nat→Int} {N:Nat} {f:Int→Option Int} (M:MapIn Tryz.prog KM w mc f N) (hW:1≤W∧W≤256) {v:Nat} {l:List Nat} (C:Chain came v l) (hll:l.length≤65536) (hlv: ∀u,u∈l→(u:Int)≤65536∧f (u:Int)=some (came u)) (hneg: ∀u,u∈l→came u<0→came u= -1):
  Calls Tryz.prog 106 #[.pointer (some ⟨sb,0,none⟩), .int .i64 (v:Int)] w fun e w'=> ∃r,e= .returned r∧Ext w w'∧Own cellE w' w.heap.size 28 r (l.reverse.map (aG W)):=by
 have q0:w.cell? ⟨sb,0,none⟩=some (.int .i64 W):=S.at 0 rfl
 have q7:w.cell? ⟨sb,7,none⟩=some (.map (some mc)):=S.at 7 rfl
 have hz:=Blk.lt S
 have HM:=aA M
 have HV:=aA hlv
 have HNG:=aA hneg
 have HC0:=aA C
 have HLV0:Hid (l≠[]):=aA (by cases C<;>simp)
 have Q:=aA (And.intro q0 q7)
 clear S M hlv hneg C q0 q7
 go_enter Tryz.func106,Tryz.ntmps106
 go_wp2_with fail
 go_loopg [1,5] l.length (fun gk si so wr=> ∃(pre rest:List Nat),l=pre++rest∧gk=rest.length∧Own cellE wr w.heap.size 28 so (pre.map (aG W))∧Ext w wr∧((rest=[]∧si= .int .i64 (-1))∨ ∃(u:Nat) (r:List Nat),rest=u::r∧si= .int .i64 (u:Int)∧Chain came u rest))
 case atStart=>exact⟨[],l,rfl,rfl,Own.nil _ _ _ _,Ext.refl _, .inr (by cases HC0.out with|stop h=>exact⟨v,_,rfl,rfl, .stop h⟩|go h1 h2=>exact⟨v,_,rfl,rfl, .go h1 h2⟩)⟩
 obtain⟨pre,rest,hlr,rfl,ho,hx,hc⟩:=hrel
 have HLR:=aA hlr
 have HO:=aA ho
 have HX:=aA hx
 have hprl:pre.length≤65536:=by rw[hlr]at hll;simp at hll;omega
 have hzr:=hx.size
 clear hlr ho hx HC0
 rcases hc with⟨rfl,rfl⟩|⟨u,r,rfl,rfl,hch⟩
 ·have hpl:l=pre:=by rw[HLR.out,List.append_nil]
  subst hpl
  have hl0:=HLV0.out
  obtain⟨g,cg,hov⟩: ∃g cg,u5= .slice (some ⟨g,0,none⟩) l.length cg:=by
   rcases HO.out.2 with⟨_,h⟩|⟨g,cap,cur,h,_⟩
   ·rw[List.length_map]at h
    exact absurd (List.eq_nil_of_length_eq_zero h) hl0
   exact⟨g,cap,by rw[h,List.length_map]⟩
  subst hov
  have hgl:=aF HO.out rfl
  have HR:=aA (fun(w':World) (hx:Ext wr w')=>rV (w:=w') (l:=l.map (aG W)) (n:=l.length) (by rw[List.length_map]) (List.length_pos_iff.2 hl0) (by omega) (HO.out.ext hx))
  clear hl0
  go_wp2_with fail
  refine(HR.out _ (Ext.refl _)).mono ?_
  rintro e w5 ⟨rfl,ho5,t5⟩
  have O5:=aA ho5
  have T5:=aA t5
  clear ho5 t5
  go_wp2_with fail
  go_ret
  refine⟨_,rfl,((Touch.of_ext (S:=fun _=>False) HX.out).after T5.out (fun k hk e=>by omega)).ext,?_⟩
  rw[List.map_reverse]
  exact O5.out
 have hu:=HV.out u (by rw[HLR.out];simp)
 have hq0:=(HX.out.cell (p:=⟨sb,0,none⟩) hz).trans Q.out.1
 have hq7:=(HX.out.cell (p:=⟨sb,7,none⟩) hz).trans Q.out.2
 have hzs:sb<wr.heap.size:=by omega
 have k1:(u:Int).tmod W=vx W u:=uZ (by omega) (by omega) (by omega)
 have k2:IntKind.i64.wrap ((u:Int).tdiv W)=vy W u:=oK (by omega) (by omega) (by omega)
 have k2':IntKind.i64.wrap ((u:Int)/W)=vy W u:=by rw[←k2,Int.tdiv_eq_ediv_of_nonneg (by omega)]
 have hW0: ¬W=0:=by omega
 have hplen:(pre.map (aG W)).length=pre.length:=List.length_map _
 have HPL:=aA hplen
 have HCH:=aA hch
 have hbz:w.heap.size≤wr.heap.size:=hzr
 obtain⟨ou,oc,hov⟩:=HO.out.slice
 subst hov
 rw[hplen]at HO⊢
 have HFU:=aA hu.2
 have HFT:Hid (bN .i64 (u:Int)):=aA (dG (by omega))
 clear hch hplen hu
 go_wp2_with fail
 go_region_law (refine lO cellE T_cells rfl _ _ rfl w.heap.size _ _ (pre.map (aG W)) rfl HO.out (aG W u) _ _ rfl _ rfl rfl (by rw[HPL.out];omega) (by rw[HPL.out];omega) (by omega) ?_;intro g9 c9 w9 o9 t9 l9;have O9:=aA o9;have T9:=aA t9;have X9:=aA (((Touch.of_ext (S:=fun _=>False) HX.out).after T9.out (fun k hk h=>by have:=(aF HO.out (k:=k) h).1;omega)).ext);have r7:w9.cell? ⟨sb,7,none⟩=some (.map (some mc)):=(X9.out.cell (p:=⟨sb,7,none⟩) hz).trans Q.out.2;have M9:=(HM.out.ext HX.out).touch T9.out (fun h=>by have:=(aF HO.out h).1;have:=HM.out.lt;omega);have rl:=M9.get_run lQ HFT.out HFU.out;simp only[KM]at rl;clear o9 t9 l9 M9)
 all_goals
  have REL:Hid (∃(pre2 rest2:List Nat),l=pre2++rest2∧r.length=rest2.length∧Own cellE w9 w.heap.size 28 (.slice (some ⟨g9,0,none⟩) (pre.length+1) c9) (pre2.map (aG W))∧Ext w w9∧((rest2=[]∧Value.int .i64 (came u)= .int .i64 (-1))∨ ∃(u2:Nat) (r2:List Nat),rest2=u2::r2∧Value.int .i64 (came u)= .int .i64 (u2:Int)∧Chain came u2 rest2)):=aA (by
   refine⟨pre++[u],r,by rw[HLR.out];simp,rfl,?_,X9.out,?_⟩
   ·have h:=O9.out
    rw[HPL.out]at h
    rw[List.map_append]
    exact h
   cases HCH.out with
   |stop h=>exact .inl ⟨rfl,by rw[HNG.out u (by rw[HLR.out];simp) h]⟩
   |go h1 h2=>
    obtain⟨r2,hr2⟩: ∃r2,r=_::r2:=by cases h2<;>exact⟨_,rfl⟩
    exact .inr ⟨_,r2,hr2,by rw[h1],h2⟩)
  try go_wp2_with fail
  go_roundg r.length
  case measure=>simp
  exact REL.out
end Go.Proofs.YtaellcgglldjaaaGreat

namespace Go.Proofs.YtaellcgglldjaaaGreat
open Go.RowKit
theorem yV {x:Int} (h1: -1000000000000000≤x) (h2:x≤1000000000000000):bN .i64 x:=by unfold bN;exact WalkArith.wf_i64 (by omega)
theorem oX {x:Int} (h1:0≤x) (h2:x≤1000000000000000):bN .u64 x:=by unfold bN;exact WalkArith.wf_u64 (by omega)
def gF (A:AS) (z:Int):Option Int:=if 0≤z∧A.st z.toNat≠0 then some (A.g z.toNat) else none
def cF (A:AS) (z:Int):Option Int:=if 0≤z∧A.st z.toNat≠0 then some (A.came z.toNat) else none
theorem tJ (A:AS) (m:Nat) (x c:Int) (z:Int):upd (gF A) (m:Int) x z=gF (A.put m x c) z:=by
 unfold upd gF AS.put bS iT
 simp only
 by_cases e:z=(m:Int)
 ·subst e
  rw[if_pos rfl,if_pos (by simp)]
  simp
 rw[if_neg e]
 by_cases h0:0≤z
 ·rw[if_neg (show ¬z.toNat=m by omega),if_neg (show ¬z.toNat=m by omega)]
 rw[if_neg (fun h=>h0 h.1),if_neg (fun h=>h0 h.1)]
theorem aFq (A:AS) (m:Nat) (x c:Int) (z:Int):upd (cF A) (m:Int) c z=cF (A.put m x c) z:=by
 unfold upd cF AS.put bS iT
 simp only
 by_cases e:z=(m:Int)
 ·subst e
  rw[if_pos rfl,if_pos (by simp)]
  simp
 rw[if_neg e]
 by_cases h0:0≤z
 ·rw[if_neg (show ¬z.toNat=m by omega),if_neg (show ¬z.toNat=m by omega)]
 rw[if_neg (fun h=>h0 h.1),if_neg (fun h=>h0 h.1)]
theorem oZ {A:AS} {m:Nat} (h:A.st m≠0):gF A (m:Int)=some (A.g m):=by
 unfold gF
 rw[if_pos ⟨by omega,by simpa using h⟩]
 simp
theorem aMu {A:AS} {m:Nat} (h:A.st m≠0):cF A (m:Int)=some (A.came m):=by
 unfold cF
 rw[if_pos ⟨by omega,by simpa using h⟩]
 simp
theorem aCv {A:AS} {m:Nat} (h:A.st m=0):gF A (m:Int)=none:=by
 unfold gF
 rw[if_neg (by simp[h])]
structure SMem (w:World) (sb:Nat) (W H:Int) (a:Option Addr) (n c:Nat) (tx ty:Int) (h mg mc:Nat) (k:Int) (S:Nat→Prop) (K:Nat→fN) (A:AS) (M:Nat):Prop where
 sea:iH w sb W H a n c tx ty h mg mc k
 gm: ∃N,N≤M∧MapIn Tryz.prog KU w mg (gF A) N
 cm: ∃N,N≤M∧MapIn Tryz.prog KM w mc (cF A) N
 heap: ∃ts,HeapIs S w h ts∧HQ K A ts
 ns: ¬S sb∧ ¬S mg∧ ¬S mc∧sb≠mg∧sb≠mc∧mg≠mc
 nw: ∀j,w.heap.size≤j→S j
theorem SMem.ext {w w':World} {sb:Nat} {W H:Int} {a:Option Addr} {n c:Nat} {tx ty:Int} {h mg mc:Nat} {k:Int} {S:Nat→Prop} {K:Nat→fN} {A:AS} {M:Nat} (m:SMem w sb W H a n c tx ty h mg mc k S K A M) (hx:Ext w w'):SMem w' sb W H a n c tx ty h mg mc k S K A M where
 sea:=Blk.ext m.sea hx
 gm:=by obtain⟨N,h1,h2⟩:=m.gm;exact⟨N,h1,h2.ext hx⟩
 cm:=by obtain⟨N,h1,h2⟩:=m.cm;exact⟨N,h1,h2.ext hx⟩
 heap:=by obtain⟨ts,h1,h2⟩:=m.heap;exact⟨ts,h1.ext hx,h2⟩
 ns:=m.ns
 nw:=fun j hj=>m.nw j (Nat.le_trans hx.size hj)
theorem SMem.few {w:World} {sb:Nat} {W H:Int} {a:Option Addr} {n c:Nat} {tx ty:Int} {h mg mc:Nat} {k:Int} {S:Nat→Prop} {K:Nat→fN} {A:AS} {M M':Nat} (m:SMem w sb W H a n c tx ty h mg mc k S K A M) (hm:M≤M'):SMem w sb W H a n c tx ty h mg mc k S K A M':=
 {m with gm:=by obtain⟨N,h1,h2⟩:=m.gm;exact⟨N,Nat.le_trans h1 hm,h2⟩,cm:=by obtain⟨N,h1,h2⟩:=m.cm;exact⟨N,Nat.le_trans h1 hm,h2⟩}
set_option maxRecDepth 100000 in
set_option maxHeartbeats 4000000 in
theorem aC6 {w:World} {sb:Nat} {W H:Int} {a:Option Addr} {n c:Nat} {tx ty:Int} {h mg mc:Nat} {k:Int} {S:Nat→Prop} {K:Nat→fN} {A:AS} {M:Nat} (m:SMem w sb W H a n c tx ty h mg mc k S K A M) {v:Nat} (hv:0≤vx W v∧vx W v≤1000∧0≤vy W v∧vy W v≤1000) (hW:1≤W∧W≤256) (hv64:(v:Int)≤1000000) (x from_:Int) (h0:A.st v≠0) (hx:A.g v≤x):
  Calls Tryz.prog 60 #[.pointer (some ⟨sb,0,none⟩), .agg #[.int .i64 (vx W v), .int .i64 (vy W v)], .int .u64 x, .int .i64 from_] w fun e w'=>e= .returned (.tuple #[])∧Ext w w':=by
 have HN:=aA (fun(w':World) (hx:Ext w w')=>kP (Blk.ext m.sea hx) (vx W v) (vy W v) (by omega) (by omega) (by omega))
 have hi:vy W v*W+vx W v=(v:Int):=by
  have:=bT (W:=W) (x:=vx W v) (y:=vy W v) hv.1 hW.1 hv.2.2.1
  rw[gE hW.1 v]at this
  exact this.symm
 rw[hi]at HN
 obtain⟨N,hN,hM⟩:=m.gm
 have HM:=aA hM
 have q6:w.cell? ⟨sb,6,none⟩=some (.map (some mg)):=m.sea.at 6 rfl
 have hz:sb<w.heap.size:=Blk.lt m.sea
 have HF:Hid (bN .i64 (v:Int)):=aA (dG (by omega))
 have HG:=aA (oZ h0)
 generalize vx W v=X at *
 generalize vy W v=Y at *
 obtain⟨g0,hg0⟩: ∃z,A.g v=z:=⟨_,rfl⟩
 rw[hg0]at HG hx
 have hlt:decide (x<g0)=false:=by simpa using hx
 clear m hM hi h0 hg0 hx hv hN
 go_enter Tryz.func60,Tryz.ntmps60
 go_wp2_with fail
 refine(HN.out _ z_x).mono ?_
 rintro e w1 ⟨rfl,hb1⟩
 obtain⟨hc1,hf1⟩:=hb1.cells;have hz1:=hb1.size;(try simp only[zS]at hz1);have z1_0:w.heap.size<w1.heap.size:=(by omega)
 have q6':=(hb1.cell (p:=⟨sb,6,none⟩) (by simp;omega)).trans ((((Ext.refl w).alloc _).cell (p:=⟨sb,6,none⟩) hz).trans q6)
 have hx1:Ext w w1:=z_x
 have HX1:=aA hx1
 have hzw:w.heap.size<w1.heap.size:=z1_0
 clear q6 hb1 hx1 hc1 hf1 hz1
 go_wp2_with (at_lookup;refine dS _ gB rfl _ _ rfl mg N _ rfl (HM.out.ext HX1.out) (v:Int) rfl HF.out ?_;rw[HG.out];intro cc hcc;obtain rfl:=hcc _ rfl;clear hcc)
 simp only[show KU.qe=IntKind.u64 from rfl]
 refine aS w1 [(0,true),(1,true),(2,true),(3,true),(4,true),(5,true),(6,true),(7,true),(8,true),(9,true),(10,true),(11,true),(12,true),(13,true),(14,true),(15,true),(16,true)] (fun hK0=> ?_)
 iterate 17 (refine SeqH.fr1 ?_;try simp only[zz])
 refine SeqH.done ?_
 have hx2:=hK0.2
 go_wp2_with fail
 exact bodyPost_ret (v:= .tuple #[]) (by simp[results,Tryz.results60,go_sem, *]) rfl ⟨rfl,HX1.out.trans hx2⟩
set_option maxRecDepth 100000 in
set_option maxHeartbeats 8000000 in
theorem uD {w:World} {sb:Nat} {W H:Int} {a:Option Addr} {n c:Nat} {tx ty:Int} {h mg mc:Nat} {k:Int} {S:Nat→Prop} {A:AS} {M:Nat} (hh:Nat→Int) (m:SMem w sb W H a n c tx ty h mg mc k S (kOf W hh A) A M) (hM:M≤900000) {v:Nat} (hv:0≤vx W v∧vx W v≤1000∧0≤vy W v∧vy W v≤1000) (hW:1≤W∧W≤256) (htx:0≤tx∧tx≤1000) (hty:0≤ty∧ty≤1000) (hv64:(v:Int)≤100000) (hvh:hh v=dN (vx W v) (vy W v) tx ty) (hop: ∀u,A.st u≠0→u<100000) (x from_:Int) (hx:0≤x∧x≤1000000000000) (hfr: -1≤from_∧from_≤1000000) (h0:A.st v=0):
  Calls Tryz.prog 60 #[.pointer (some ⟨sb,0,none⟩), .agg #[.int .i64 (vx W v), .int .i64 (vy W v)], .int .u64 x, .int .i64 from_] w fun e w'=>e= .returned (.tuple #[])∧SMem w' sb W H a n c tx ty h mg mc k S (kOf W hh (A.put v x from_)) (A.put v x from_) (M+1)∧Touch (fun j=>S j∨j=mg∨j=mc) w w':=by
 have HN:=aA (fun(w':World) (hx:Ext w w')=>kP (Blk.ext m.sea hx) (vx W v) (vy W v) (by omega) (by omega) (by omega))
 have HK:=aA (fun(w':World) (hx':Ext w w')=>aAf (Blk.ext m.sea hx') (vx W v) (vy W v) x (by omega) (by omega) htx hty hx)
 have hi:vy W v*W+vx W v=(v:Int):=by
  have:=bT (W:=W) (x:=vx W v) (y:=vy W v) hv.1 hW.1 hv.2.2.1
  rw[gE hW.1 v]at this
  exact this.symm
 rw[hi]at HN
 have hkey:kOf W hh (A.put v x from_) v=((x+dN (vx W v) (vy W v) tx ty,dN (vx W v) (vy W v) tx ty),(vy W v,vx W v)):=by
  unfold kOf
  rw[hvh]
  simp[AS.put,iT]
 rw[←hkey]at HK
 have hother: ∀u,u≠v→kOf W hh (A.put v x from_) u=kOf W hh A u:=fun u hu=>by
  unfold kOf
  rw[show(A.put v x from_).g u=A.g u from gZ _ _ hu]
 obtain⟨N,hN,hMg⟩:=m.gm
 obtain⟨N2,hN2,hMc⟩:=m.cm
 obtain⟨ts,hts,hq⟩:=m.heap
 have hfew:=hq.few hop
 have hvq:(v:Int)∉ids ts:=fun hm=>by have:=hq.ids_st hm;omega
 have HF:Hid (bN .i64 (v:Int)):=aA (dG (by omega))
 have hts1:HeapIs (fun j=>S j∧j≠w.heap.size) w h ts:=hts.mono (fun j hj hS=>⟨hS,by omega⟩)
 have HP:=aA (fun(w':World) (hx:Ext w w') (hz:w.heap.size<w'.heap.size)=>pA (S:=fun j=>S j∧j≠w.heap.size) (fun j hj=>⟨m.nw j (Nat.le_trans hx.size hj),by omega⟩) (hts1.ext hx) (by omega) ((v:Int),kOf W hh (A.put v x from_) v) hvq HF.out)
 have HQQ:=aA hq
 have HOT:=aA hother
 have MM:=aA m
 have HMG:=aA hMg
 have HMC:=aA hMc
 have q6:w.cell? ⟨sb,6,none⟩=some (.map (some mg)):=m.sea.at 6 rfl
 have hz:sb<w.heap.size:=Blk.lt m.sea
 have HG:=aA (aCv h0)
 have HV0:=aA h0
 obtain⟨X,hX⟩: ∃z,vx W v=z:=⟨_,rfl⟩
 obtain⟨Y,hY⟩: ∃z,vy W v=z:=⟨_,rfl⟩
 rw[hX,hY]at HN HK⊢
 obtain⟨KV,hKV⟩: ∃z,kOf W hh (A.put v x from_) v=z:=⟨_,rfl⟩
 have HKV:=aA hKV
 rw[hKV]at HK HP
 clear m hMg hMc hi h0 hq hv hts hts1 hother hkey hX hY hKV hvq hvh
 go_enter Tryz.func60,Tryz.ntmps60
 go_wp2_with fail
 refine(HN.out _ z_x).mono ?_
 rintro e w1 ⟨rfl,hb1⟩
 have B1:Hid (Blk w1 (w.heap.size) 28 #[.int .i64 X, .int .i64 Y]):=aA (by refine Blk.ext ?_ hb1;(repeat' (first|exact Blk.new_ (by simp)|refine Blk.drew ?_|refine Blk.over ?_)))
 have hx1:Ext w w1:=z_x
 have q6':=(hx1.cell (p:=⟨sb,6,none⟩) hz).trans q6
 have HX1:=aA hx1
 have zs1:sb<w1.heap.size:=Nat.lt_of_lt_of_le hz hx1.size
 clear q6 hb1 hx1
 go_wp2_with (at_lookup;refine dS _ gB rfl _ _ rfl mg N _ rfl (HMG.out.ext HX1.out) (v:Int) rfl HF.out ?_;rw[HG.out];intro cc hcc;clear hcc)
 simp only[show KU.qe=IntKind.u64 from rfl]
 have q5:w1.cell? ⟨sb,5,none⟩=some (.pointer (some ⟨h,0,none⟩)):=(HX1.out.cell (p:=⟨sb,5,none⟩) hz).trans (MM.out.sea.at 5 rfl)
 have L1:Hid (CellsAt [(⟨sb,5,none⟩, .pointer (some ⟨h,0,none⟩)),(⟨w.heap.size,0,none⟩, .int .i64 X),(⟨w.heap.size,1,none⟩, .int .i64 Y)] w1):=aA ⟨q5,B1.out.at 0 rfl,B1.out.at 1 rfl,trivial⟩
 clear q5 q6' zs1
 go_wp2_with fail
 refine bM (S:=(CellsAt [(⟨sb,5,none⟩, .pointer (some ⟨h,0,none⟩)),(⟨w.heap.size,0,none⟩, .int .i64 X),(⟨w.heap.size,1,none⟩, .int .i64 Y)])) [(0,true),(1,true),(2,true),(3,true),(4,true),(5,true),(6,true),(7,true),(8,false),(9,false)] (by kernel_rfl) (by kernel_rfl) (by kernel_rfl) (by decide) (fun _ _ d _ _ h=>by cases d<;>exact h) (CellsAt.ext ((Ext.refl _).drew) L1.out) (fun hK0=> ?_)
 iterate 8 (refine SeqH.fr2 ?_;try simp only[zz])
 (refine aP ?_;intro K hK;go_simp;refine(HK.out _ (HX1.out.trans z_x)).mono ?_;rintro e w2 ⟨rfl,hb2⟩;have hx2:Ext w1 w2:=z_x;have L2:=aA (L1.out.ext hx2);have HX2:=aA (HX1.out.trans hx2);have zw2:w.heap.size<w2.heap.size:=Nat.lt_of_lt_of_le B1.out.lt hx2.size;clear hb2 hx2;go_wp2_with fail;refine hK.out _ _ (L2.out) (fun hK0=> ?_);clear hK K;try simp only[zz])
 (refine aP ?_;intro K hK;go_simp;refine(HP.out _ HX2.out zw2).mono ?_;rintro e w3 ⟨rfl,ts3,h3,p3,t3⟩;have H3:=aA h3;have P3:=aA p3;have T3:=aA t3;have hns:=MM.out.ns;have L3:=aA (L2.out.touch t3 (by intro p hp;simp only[List.mem_cons,List.not_mem_nil,or_false]at hp;rcases hp with rfl|rfl|rfl;(·exact fun h=>hns.1 h.1);(·exact fun h=>h.2 rfl);(·exact fun h=>h.2 rfl)));clear h3 p3 t3 hns;go_wp2_with fail;refine hK.out _ _ (L3.out) (fun hK0=> ?_);clear hK K;try simp only[zz])
 refine SeqH.done ?_
 obtain⟨n1,n2,n3,n4,n5,n6⟩:=MM.out.ns
 have M3g:MapIn Tryz.prog KU w3 mg (gF A) N:=(HMG.out.ext HX2.out).touch T3.out (fun h=>n2 h.1)
 have M3c:MapIn Tryz.prog KM w3 mc (cF A) N2:=(HMC.out.ext HX2.out).touch T3.out (fun h=>n3 h.1)
 have S3:iH w3 sb W H a n c tx ty h mg mc k:=Blk.touch (Blk.ext MM.out.sea HX2.out) T3.out (fun h=>n1 h.1)
 have hzw:=HX2.out.size
 have hz3:=T3.out.size
 obtain⟨v0,st0,w4,w5,r4,_,r5,m5,t5⟩:=M3g.drew.entry gB (x:=(v:Int)) (c:=x) HF.out (oX hx.1 (by omega)) (by omega)
 have m5c:MapIn Tryz.prog KM w5 mc (cF A) N2:=M3c.drew.touch t5 (fun h=>n6 h.symm)
 obtain⟨v1,st1,w6,w7,r6,_,r7,m7,t7⟩:=m5c.entry lQ (x:=(v:Int)) (c:=from_) HF.out (yV (by omega) (by omega)) (by omega)
 have t37:Touch (fun j=>j=mg∨j=mc) w3 w7:=((Touch.refl _ w3).drew.trans (t5.mono (fun j _ h=> .inl h))).trans (t7.mono (fun j _ h=> .inr h))
 have FIN:Hid (SMem w7 sb W H a n c tx ty h mg mc k S (kOf W hh (A.put v x from_)) (A.put v x from_) (M+1)∧Touch (fun j=>S j∨j=mg∨j=mc) w w7):=aA ⟨{
   sea:=Blk.touch S3 t37 (fun h=>h.elim n4 n5)
   gm:=⟨_,by split<;>omega,(m5.congr (tJ A v x from_)).touch t7 (fun h=>n6 h)⟩
   cm:=⟨_,by split<;>omega,m7.congr (aFq A v x from_)⟩
   heap:=⟨ts3,(H3.out.mono (fun j _ h=>h.1)).touch t37 (fun j hj h=>h.elim (fun e=>n2 (e▸hj)) (fun e=>n3 (e▸hj))),HQQ.out.push HV0.out HOT.out (by rw[HKV.out];exact P3.out)⟩
   ns:=MM.out.ns
   nw:=fun j hj=>MM.out.nw j (by have:=t37.size;omega)},((Touch.of_ext HX2.out).trans (T3.out.mono (fun j _ h=> .inl h.1))).trans (t37.mono (fun j _ h=> .inr h))⟩
 simp only[KU]at r4 r5
 simp only[KM]at r6 r7
 have e0:w3.cell? ⟨sb,6,none⟩=some (.map (some mg)):=S3.at 6 rfl
 have e1:w3.cell? ⟨sb,7,none⟩=some (.map (some mc)):=S3.at 7 rfl
 clear M3g M3c S3 m5 m5c m7 t5 t7 t37 hK0 n1 n2 n3 n4 n5 n6
 go_wp2_with fail
 go_region
 go_end0
 exact⟨rfl,FIN.out.1,FIN.out.2⟩
set_option maxRecDepth 100000 in
set_option maxHeartbeats 8000000 in
theorem aAg {w:World} {sb:Nat} {W H:Int} {a:Option Addr} {n c:Nat} {tx ty:Int} {h mg mc:Nat} {k:Int} {S:Nat→Prop} {A:AS} {M:Nat} (hh:Nat→Int) (m:SMem w sb W H a n c tx ty h mg mc k S (kOf W hh A) A M) (hM:M≤900000) {v:Nat} (hv:0≤vx W v∧vx W v≤1000∧0≤vy W v∧vy W v≤1000) (hW:1≤W∧W≤256) (htx:0≤tx∧tx≤1000) (hty:0≤ty∧ty≤1000) (hv64:(v:Int)≤100000) (hvh:hh v=dN (vx W v) (vy W v) tx ty) (hop: ∀u,A.st u≠0→u<100000) (x from_:Int) (hx:0≤x∧x≤1000000000000) (hfr: -1≤from_∧from_≤1000000) (h1:A.st v=1) (hlt:x<A.g v):
  Calls Tryz.prog 60 #[.pointer (some ⟨sb,0,none⟩), .agg #[.int .i64 (vx W v), .int .i64 (vy W v)], .int .u64 x, .int .i64 from_] w fun e w'=>e= .returned (.tuple #[])∧SMem w' sb W H a n c tx ty h mg mc k S (kOf W hh (A.put v x from_)) (A.put v x from_) (M+1)∧Touch (fun j=>S j∨j=mg∨j=mc) w w':=by
 have HN:=aA (fun(w':World) (hx:Ext w w')=>kP (Blk.ext m.sea hx) (vx W v) (vy W v) (by omega) (by omega) (by omega))
 have HK:=aA (fun(w':World) (hx':Ext w w')=>aAf (Blk.ext m.sea hx') (vx W v) (vy W v) x (by omega) (by omega) htx hty hx)
 have hi:vy W v*W+vx W v=(v:Int):=by
  have:=bT (W:=W) (x:=vx W v) (y:=vy W v) hv.1 hW.1 hv.2.2.1
  rw[gE hW.1 v]at this
  exact this.symm
 rw[hi]at HN
 have hkey:kOf W hh (A.put v x from_) v=((x+dN (vx W v) (vy W v) tx ty,dN (vx W v) (vy W v) tx ty),(vy W v,vx W v)):=by
  unfold kOf
  rw[hvh]
  simp[AS.put,iT]
 rw[←hkey]at HK
 have hother: ∀u,u≠v→kOf W hh (A.put v x from_) u=kOf W hh A u:=fun u hu=>by
  unfold kOf
  rw[show(A.put v x from_).g u=A.g u from gZ _ _ hu]
 obtain⟨N,hN,hMg⟩:=m.gm
 obtain⟨N2,hN2,hMc⟩:=m.cm
 obtain⟨ts,hts,hq⟩:=m.heap
 have hfew:=hq.few hop
 obtain⟨kk,hkk,hat⟩:=hq.waits h1
 have hless:bP (kOf W hh (A.put v x from_) v) (tat ts kk).2=true:=by
  rw[hat,hkey]
  refine lessB_iff.2 (.inl ?_)
  unfold kOf
  simp only
  rw[hvh]
  omega
 have HF:Hid (bN .i64 (v:Int)):=aA (dG (by omega))
 have hts1:HeapIs (fun j=>S j∧j≠w.heap.size) w h ts:=hts.mono (fun j hj hS=>⟨hS,by omega⟩)
 have HP:=aA (fun(w':World) (hx:Ext w w')=>qB (S:=fun j=>S j∧j≠w.heap.size) (hts1.ext hx) (by omega) hkk ((v:Int),kOf W hh (A.put v x from_) v) (by rw[hat]) hless)
 have HKK:=aA hkk
 have HAT:=aA hat
 have HQQ:=aA hq
 have HOT:=aA hother
 have MM:=aA m
 have HMG:=aA hMg
 have HMC:=aA hMc
 have q6:w.cell? ⟨sb,6,none⟩=some (.map (some mg)):=m.sea.at 6 rfl
 have hz:sb<w.heap.size:=Blk.lt m.sea
 have HG:=aA (oZ (A:=A) (m:=v) (by omega))
 have HV0:=aA h1
 obtain⟨g0,hg0⟩: ∃z,A.g v=z:=⟨_,rfl⟩
 rw[hg0]at HG hlt
 have hlt2:decide (x<g0)=true:=by simpa using hlt
 obtain⟨X,hX⟩: ∃z,vx W v=z:=⟨_,rfl⟩
 obtain⟨Y,hY⟩: ∃z,vy W v=z:=⟨_,rfl⟩
 rw[hX,hY]at HN HK⊢
 obtain⟨KV,hKV⟩: ∃z,kOf W hh (A.put v x from_) v=z:=⟨_,rfl⟩
 have HKV:=aA hKV
 rw[hKV]at HK HP
 clear m hMg hMc hi h1 hq hv hts hts1 hother hkey hX hY hKV hvh hat hless hkk hg0 hlt
 go_enter Tryz.func60,Tryz.ntmps60
 go_wp2_with fail
 refine(HN.out _ z_x).mono ?_
 rintro e w1 ⟨rfl,hb1⟩
 have B1:Hid (Blk w1 (w.heap.size) 28 #[.int .i64 X, .int .i64 Y]):=aA (by refine Blk.ext ?_ hb1;(repeat' (first|exact Blk.new_ (by simp)|refine Blk.drew ?_|refine Blk.over ?_)))
 have hx1:Ext w w1:=z_x
 have q6':=(hx1.cell (p:=⟨sb,6,none⟩) hz).trans q6
 have HX1:=aA hx1
 have zs1:sb<w1.heap.size:=Nat.lt_of_lt_of_le hz hx1.size
 clear q6 hb1 hx1
 go_wp2_with (at_lookup;refine dS _ gB rfl _ _ rfl mg N _ rfl (HMG.out.ext HX1.out) (v:Int) rfl HF.out ?_;rw[HG.out];intro cc hcc;obtain rfl:=hcc _ rfl;clear hcc)
 simp only[show KU.qe=IntKind.u64 from rfl]
 have q5:w1.cell? ⟨sb,5,none⟩=some (.pointer (some ⟨h,0,none⟩)):=(HX1.out.cell (p:=⟨sb,5,none⟩) hz).trans (MM.out.sea.at 5 rfl)
 have L1:Hid (CellsAt [(⟨sb,5,none⟩, .pointer (some ⟨h,0,none⟩)),(⟨w.heap.size,0,none⟩, .int .i64 X),(⟨w.heap.size,1,none⟩, .int .i64 Y)] w1):=aA ⟨q5,B1.out.at 0 rfl,B1.out.at 1 rfl,trivial⟩
 clear q5 q6' zs1
 go_wp2_with fail
 refine bM (S:=(CellsAt [(⟨sb,5,none⟩, .pointer (some ⟨h,0,none⟩)),(⟨w.heap.size,0,none⟩, .int .i64 X),(⟨w.heap.size,1,none⟩, .int .i64 Y)])) [(0,true),(1,true),(2,true),(3,true),(4,true),(5,true),(6,true),(7,true),(8,true),(9,true),(10,true),(11,true),(12,false),(13,false),(14,true),(15,true),(16,true)] (by kernel_rfl) (by kernel_rfl) (by kernel_rfl) (by decide) (fun _ _ d _ _ h=>by cases d<;>exact h) (CellsAt.ext ((Ext.refl _).drew) L1.out) (fun hK0=> ?_)
 iterate 12 (refine SeqH.fr2 ?_;try simp only[zz])
 (refine aP ?_;intro K hK;go_simp;refine(HK.out _ (HX1.out.trans z_x)).mono ?_;rintro e w2 ⟨rfl,hb2⟩;have hx2:Ext w1 w2:=z_x;have L2:=aA (L1.out.ext hx2);have HX2:=aA (HX1.out.trans hx2);have zw2:w.heap.size<w2.heap.size:=Nat.lt_of_lt_of_le B1.out.lt hx2.size;clear hb2 hx2;go_wp2_with fail;refine hK.out _ _ (L2.out) (fun hK0=> ?_);clear hK K;try simp only[zz])
 (refine aP ?_;intro K hK;go_simp;refine(HP.out _ HX2.out).mono ?_;rintro e w3 ⟨rfl,ts3,h3,p3,t3⟩;have H3:=aA h3;have P3:=aA p3;have T3:=aA t3;have hns:=MM.out.ns;have L3:=aA (L2.out.touch t3 (by intro p hp;simp only[List.mem_cons,List.not_mem_nil,or_false]at hp;rcases hp with rfl|rfl|rfl;(·exact fun h=>hns.1 h.1);(·exact fun h=>h.2 rfl);(·exact fun h=>h.2 rfl)));clear h3 p3 t3 hns;go_wp2_with fail;refine hK.out _ _ (L3.out) (fun hK0=> ?_);clear hK K;try simp only[zz])
 iterate 3 (refine SeqH.fr2 ?_;try simp only[zz])
 refine SeqH.done ?_
 obtain⟨n1,n2,n3,n4,n5,n6⟩:=MM.out.ns
 have M3g:MapIn Tryz.prog KU w3 mg (gF A) N:=(HMG.out.ext HX2.out).touch T3.out (fun h=>n2 h.1)
 have M3c:MapIn Tryz.prog KM w3 mc (cF A) N2:=(HMC.out.ext HX2.out).touch T3.out (fun h=>n3 h.1)
 have S3:iH w3 sb W H a n c tx ty h mg mc k:=Blk.touch (Blk.ext MM.out.sea HX2.out) T3.out (fun h=>n1 h.1)
 have hzw:=HX2.out.size
 have hz3:=T3.out.size
 obtain⟨v0,st0,w4,w5,r4,_,r5,m5,t5⟩:=M3g.drew.entry gB (x:=(v:Int)) (c:=x) HF.out (oX hx.1 (by omega)) (by omega)
 have m5c:MapIn Tryz.prog KM w5 mc (cF A) N2:=M3c.drew.touch t5 (fun h=>n6 h.symm)
 obtain⟨v1,st1,w6,w7,r6,_,r7,m7,t7⟩:=m5c.entry lQ (x:=(v:Int)) (c:=from_) HF.out (yV (by omega) (by omega)) (by omega)
 have t37:Touch (fun j=>j=mg∨j=mc) w3 w7:=((Touch.refl _ w3).drew.trans (t5.mono (fun j _ h=> .inl h))).trans (t7.mono (fun j _ h=> .inr h))
 have FIN:Hid (SMem w7 sb W H a n c tx ty h mg mc k S (kOf W hh (A.put v x from_)) (A.put v x from_) (M+1)∧Touch (fun j=>S j∨j=mg∨j=mc) w w7):=aA ⟨{
   sea:=Blk.touch S3 t37 (fun h=>h.elim n4 n5)
   gm:=⟨_,by split<;>omega,(m5.congr (tJ A v x from_)).touch t7 (fun h=>n6 h)⟩
   cm:=⟨_,by split<;>omega,m7.congr (aFq A v x from_)⟩
   heap:=⟨ts3,(H3.out.mono (fun j _ h=>h.1)).touch t37 (fun j hj h=>h.elim (fun e=>n2 (e▸hj)) (fun e=>n3 (e▸hj))),HQQ.out.lower HV0.out HKK.out HAT.out HOT.out (by rw[HKV.out];exact P3.out)⟩
   ns:=MM.out.ns
   nw:=fun j hj=>MM.out.nw j (by have:=t37.size;omega)},((Touch.of_ext HX2.out).trans (T3.out.mono (fun j _ h=> .inl h.1))).trans (t37.mono (fun j _ h=> .inr h))⟩
 simp only[KU]at r4 r5
 simp only[KM]at r6 r7
 have e0:w3.cell? ⟨sb,6,none⟩=some (.map (some mg)):=S3.at 6 rfl
 have e1:w3.cell? ⟨sb,7,none⟩=some (.map (some mc)):=S3.at 7 rfl
 clear M3g M3c S3 m5 m5c m7 t5 t7 t37 hK0 n1 n2 n3 n4 n5 n6
 go_wp2_with fail
 go_region
 go_end0
 exact⟨rfl,FIN.out.1,FIN.out.2⟩
end Go.Proofs.YtaellcgglldjaaaGreat

namespace Go.Proofs.YtaellcgglldjaaaGreat
open Go.RowKit
theorem aCw {S:Nat→Prop} {w:World} {h:Nat} {l:List aM} (H:HeapIs S w h l):Calls Tryz.prog 88 #[.pointer (some ⟨h,0,none⟩)] w fun e w'=>e= .returned (.int .i64 l.length)∧w=w':=by
 obtain⟨v,mb,h1,_,_⟩:=H
 exact sG h1
theorem aD1 {W H x y:Int} (hm:bW W H=true):inB W H x y=bO 0 0 W H x y:=by
 have:=mayB_true.1 hm
 rw[Bool.eq_iff_iff,inB_true,hasB_true]
 omega
theorem sY {W H:Int} {l:List Int} (hm:bW W H=true) (hu:cV l) (x y:Int): ∀k,(dB W H ((List.range k).map fun k:Nat=>((k:Int),(x+aU k,y+aV k)))).filter (fun q=> !decide (aL l W q=0))=nbC (bD l W 0 0 W H) x y k
 |0=>rfl
 |k+1=>by
  rw[List.range_succ,List.map_append,List.map_cons,List.map_nil,qD,List.filter_append,sY hm hu x y k]
  show _=nbC (bD l W 0 0 W H) x y k++if bD l W 0 0 W H (x+aU k) (y+aV k)=true then[(x+aU k,y+aV k)] else[]
  congr 1
  rw[show inB W H ((k:Int),(x+aU k,y+aV k)).2.1 ((k:Int),(x+aU k,y+aV k)).2.2=bO 0 0 W H (x+aU k) (y+aV k) from aD1 hm]
  have hc:=(bX hu W (x+aU k,y+aV k)).1
  unfold bD
  by_cases h1:bO 0 0 W H (x+aU k) (y+aV k)=true
  ·by_cases h2:aL l W (x+aU k,y+aV k)=0
   ·simp[h1,h2]
   have h3:0<aL l W (x+aU k,y+aV k):=by omega
   simp[h1,h2,h3]
  simp[h1]
section
variable {w w':World} {sb:Nat} {W H:Int} {a:Option Addr} {n c:Nat} {tx ty:Int} {h mg mc:Nat} {k:Int} {S S' T:Nat→Prop} {K:Nat→fN} {A:AS} {M:Nat}
theorem SMem.touch (m:SMem w sb W H a n c tx ty h mg mc k S K A M) (t:Touch T w w') (h1: ¬T sb) (h2: ¬T mg) (h3: ¬T mc) (hs: ∀j,j<w.heap.size→S j→S' j∧ ¬T j) (hn: ¬S' sb∧ ¬S' mg∧ ¬S' mc) (hw: ∀j,w'.heap.size≤j→S' j):SMem w' sb W H a n c tx ty h mg mc k S' K A M where
 sea:=Blk.touch m.sea t h1
 gm:=by obtain⟨N,a1,a2⟩:=m.gm;exact⟨N,a1,a2.touch t h2⟩
 cm:=by obtain⟨N,a1,a2⟩:=m.cm;exact⟨N,a1,a2.touch t h3⟩
 heap:=by
  obtain⟨ts,a1,a2⟩:=m.heap
  exact⟨ts,(a1.mono (S':=fun j=>S' j∧ ¬T j) hs).touch t (fun j hj=>hj.2)|>.mono (fun j _ hj=>hj.1),a2⟩
 ns:=⟨hn.1,hn.2.1,hn.2.2,m.ns.2.2.2.1,m.ns.2.2.2.2.1,m.ns.2.2.2.2.2⟩
 nw:=hw
theorem SMem.wide (m:SMem w sb W H a n c tx ty h mg mc k S K A M) (hs: ∀j,S j→S' j) (hn: ¬S' sb∧ ¬S' mg∧ ¬S' mc):SMem w sb W H a n c tx ty h mg mc k S' K A M where
 sea:=m.sea
 gm:=m.gm
 cm:=m.cm
 heap:=by obtain⟨ts,a1,a2⟩:=m.heap;exact⟨ts,a1.mono (fun j _ hj=>hs j hj),a2⟩
 ns:=⟨hn.1,hn.2.1,hn.2.2,m.ns.2.2.2.1,m.ns.2.2.2.2.1,m.ns.2.2.2.2.2⟩
 nw:=fun j hj=>hs j (m.nw j hj)
end
theorem aEv {w:World} {sb:Nat} {W H:Int} {a:Option Addr} {n c:Nat} {tx ty:Int} {h mg mc:Nat} {k:Int} {S:Nat→Prop} {A:AS} {M:Nat} (hh:Nat→Int) (m:SMem w sb W H a n c tx ty h mg mc k S (kOf W hh A) A M) (hM:M≤900000) {v:Nat} (hv:0≤vx W v∧vx W v≤1000∧0≤vy W v∧vy W v≤1000) (hW:1≤W∧W≤256) (htx:0≤tx∧tx≤1000) (hty:0≤ty∧ty≤1000) (hv64:(v:Int)≤100000) (hvh:hh v=dN (vx W v) (vy W v) tx ty) (hop: ∀u,A.st u≠0→u<100000) (h2:A.st v≤2) {G:Net} {u:Nat} (hx:0≤A.g u+G.cost v∧A.g u+G.cost v≤1000000000000) (hfr:(u:Int)≤1000000) (hset:A.st v=2→A.g v≤A.g u+G.cost v):
  Calls Tryz.prog 60 #[.pointer (some ⟨sb,0,none⟩), .agg #[.int .i64 (vx W v), .int .i64 (vy W v)], .int .u64 (A.g u+G.cost v), .int .i64 (u:Int)] w fun e w'=>e= .returned (.tuple #[])∧SMem w' sb W H a n c tx ty h mg mc k S (kOf W hh (rx G u A v)) (rx G u A v) (M+1)∧Touch (fun j=>S j∨j=mg∨j=mc) w w':=by
 unfold rx
 by_cases ht:A.takes v (A.g u+G.cost v)
 ·rw[if_pos ht]
  rcases ht with h0|⟨h1,hlt⟩
  ·exact uD hh m hM hv hW htx hty hv64 hvh hop _ _ hx (by omega) h0
  exact aAg hh m hM hv hW htx hty hv64 hvh hop _ _ hx (by omega) h1 hlt
 rw[if_neg ht]
 have h0:A.st v≠0:=fun e=>ht (.inl e)
 have hge:A.g v≤A.g u+G.cost v:=by
  by_cases e:A.st v=2
  ·exact hset e
  exact Int.not_lt.1 fun hlt=>ht (.inr ⟨by omega,hlt⟩)
 refine(aC6 m hv hW (by omega) _ _ h0 hge).mono ?_
 rintro e w' ⟨h1,h2⟩
 exact⟨h1,(m.ext h2).few (Nat.le_succ M),Touch.of_ext h2⟩
end Go.Proofs.YtaellcgglldjaaaGreat

