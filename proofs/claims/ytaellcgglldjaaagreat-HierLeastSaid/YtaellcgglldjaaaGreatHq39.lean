/- Part of a proof: HierX FloodI0 StarM0 HierY HierLa HierV HierZ HierDj HierDk. -/
import Derived.Test.YtaellcgglldjaaaGreatHq37
import Derived.Test.YtaellcgglldjaaaGreatHq31
import Derived.Test.YtaellcgglldjaaaGreatHq38
import Derived.Test.YtaellcgglldjaaaGreatHq14
import Derived.Test.YtaellcgglldjaaaGreatHq02
import Derived.Test.YtaellcgglldjaaaGreatHq23
import Derived.Test.YtaellcgglldjaaaGreatHq36
import Derived.Test.YtaellcgglldjaaaGreatHq22
set_option linter.all false
set_option linter.unusedVariables false
set_option linter.unusedSimpArgs false
namespace Go.Proofs.YtaellcgglldjaaaGreat
open Go.RowKit
set_option maxRecDepth 100000 in
theorem aAb (a b:Option Addr) (l m:List aB) (c d:Nat) (w:World) (hl:l.length≤1000000) (ha:RowC w a l) (hb:RowC w b m):
  Calls Tryz.prog 16 #[.slice a l.length c, .slice b m.length d] w fun e w'=>e= .returned (.bool (decide (l=m)))∧Ext w w':=by
 by_cases hlen:l.length=m.length
 ·have HA:=aA ha
  have HB:=aA hb
  have HLM:=aA hlen
  obtain⟨n,hn⟩: ∃n,l.length=n:=⟨_,rfl⟩
  have HN:=aA hn
  rw[←hlen,hn]
  rw[hn]at hl
  clear ha hb hlen hn
  go_enter Tryz.func16,Tryz.ntmps16
  go_wp2_with fail
  go_loopw [5] (fun i wr=> ∃k:Nat,k≤n∧i= .int .i64 k∧l.take k=m.take k∧Ext w wr) (fun i _=>n-(intOf i).toNat)
  case atStart=>exact⟨0,Nat.zero_le _,rfl,rfl,z_x⟩
  case round=>
   obtain⟨k,hk,rfl,htk,hx⟩:=hrel
   have HT:=aA htk
   have HX:=aA hx
   clear htk hx
   by_cases hlt:k<n
   ·have h1:k<l.length:=by rw[HN.out];exact hlt
    have h2:k<m.length:=by rw[←HLM.out];exact h1
    obtain⟨ba,oa,rfl,za,ca⟩:=HA.out (by omega)
    obtain⟨bb,ob,rfl,zb,cb⟩:=HB.out (by omega)
    have d0:=(HX.out.cell (p:=⟨ba,oa+k*2,none⟩) za).trans (ca k h1).1
    have d2:=(HX.out.cell (p:=⟨ba,oa+k*2+1,none⟩) za).trans (ca k h1).2
    have d1:=(HX.out.cell (p:=⟨bb,ob+k*2,none⟩) zb).trans (cb k h2).1
    have d3:=(HX.out.cell (p:=⟨bb,ob+k*2+1,none⟩) zb).trans (cb k h2).2
    have z0:ba<wr.heap.size:=Nat.lt_of_lt_of_le za HX.out.size
    have z1:bb<wr.heap.size:=Nat.lt_of_lt_of_le zb HX.out.size
    have jk:(k:Int)<(n:Int):=by omega
    have e1:l[k]? =some l[k]:=List.getElem?_eq_getElem h1
    have e2:m[k]? =some m[k]:=List.getElem?_eq_getElem h2
    obtain⟨x,hx⟩: ∃x,l[k]=x:=⟨_,rfl⟩
    obtain⟨y,hy⟩: ∃y,m[k]=y:=⟨_,rfl⟩
    rw[hx]at d0 d2 e1
    rw[hy]at d1 d3 e2
    have E1:=aA e1
    have E2:=aA e2
    clear h1 h2 ca cb hx hy e1 e2
    by_cases hxy:x=y
    ·have HN1:Hid (l.take (k+1)=m.take (k+1)):=aA (by rw[List.take_add_one,List.take_add_one,E1.out,E2.out,HT.out,hxy])
     have hq1: ∀w,(Op.equalIn 10000 28 (.agg #[.int .i64 x.1, .int .i64 x.2]) (.agg #[.int .i64 y.1, .int .i64 y.2])).run Tryz.prog w= .ok true w:=fun w=>by rw[bJ x y w,aX];simp[hxy]
     have hx:=HX.out
     clear hxy
     go_wp2
     go_quiet (fail)
     go_wp2
     go_roundw
     case rel=>exact⟨k+1,hlt,by go_num,HN1.out,z_x⟩
     case measure=>simp[intOf];omega
    ·have HF:Hid (decide (l=m)=false):=aA (by simp only[decide_eq_false_iff_not];intro e;rw[e,E2.out]at E1;exact hxy (Option.some.inj E1.out).symm)
     have hq1: ∀w,(Op.equalIn 10000 28 (.agg #[.int .i64 x.1, .int .i64 x.2]) (.agg #[.int .i64 y.1, .int .i64 y.2])).run Tryz.prog w= .ok false w:=fun w=>by rw[bJ x y w,aX];simp[hxy]
     clear hxy
     have hx:=HX.out
     go_wp2
     go_quiet (fail)
     go_wp2
     go_ret
     exact⟨by rw[HF.out]<;>rfl,z_x⟩
   ·obtain rfl:n=k:=by omega
    have HF:Hid (decide (l=m)=true):=aA (by
     have h:=HT.out
     rw[List.take_of_length_le (by rw[HN.out];exact Nat.le_refl _),List.take_of_length_le (by rw[←HLM.out,HN.out];exact Nat.le_refl _)]at h
     simpa using h)
    have hx:=HX.out
    go_wp2
    go_ret
    exact⟨by rw[HF.out]<;>rfl,z_x⟩
 ·have HF:Hid (decide (l=m)=false):=aA (by simp only[decide_eq_false_iff_not];intro e;exact hlen (by rw[e]))
  have hb0:((l.length:Int) !=(m.length:Int))=true:=by simp;omega
  obtain⟨n,hn⟩: ∃n,l.length=n:=⟨_,rfl⟩
  obtain⟨n2,hn2⟩: ∃n,m.length=n:=⟨_,rfl⟩
  have hb1:(n !=n2)=true:=by simp;omega
  rw[hn,hn2]at hb0⊢
  clear ha hb hlen hn hn2
  go_enter Tryz.func16,Tryz.ntmps16
  go_wp2
  go_ret
  exact⟨by rw[HF.out]<;>rfl,z_x⟩
theorem jR:LandP 4 2 aw15 0 0 4 2:=⟨by decide,by decide,aw15_good.u16,by decide⟩
theorem aH5: ∀v m,m∈(aF jR).adj v→m<(aF jR).n:=fun _ m h=>(aF jR).lt m (wS jR h)
theorem aJm (s:Nat) (hs:s<8): ∀u,(aV s).st u=1→u<8:=fun u hu=>by
 have:bK (fun _=>0) s 1 u=1:=hu
 unfold bK at this
 split at this
 ·omega
 ·cases this
theorem aE4:Srch 4 2 aw15 0 1 3 1 9 [4,5,6,7] 3 4 0:= .inr ⟨by decide,jR, .inl ⟨by decide+kernel,by decide+kernel,aC4 (k:=20) aH5 (aJm 4 (by omega)) (by decide+kernel)⟩⟩
theorem qP {w:World} {b:Nat} {l:List Int} (h:Blk w b 84 (l.map (Value.int .u16)).toArray):Row16 w (some ⟨b,0,none⟩) l:=fun _=>⟨b,0,rfl,h.lt,fun k hk=>by
 rw[Nat.zero_add,h.cell k]
 simp[hk]⟩
set_option maxRecDepth 100000 in
set_option maxHeartbeats 1000000 in
theorem cY (w:World):Calls Tryz.prog 10 #[] w fun e w'=>e= .returned (.bool true)∧Ext w w':=by
 go_enter Tryz.func10,Tryz.ntmps10
 go_wp2_with fail
 obtain⟨w1,hw1⟩: ∃z,z=(w.alloc (.cells #[.int .u16 1, .int .u16 1, .int .u16 1, .int .u16 1, .int .u16 1, .int .u16 1, .int .u16 1, .int .u16 1] 84)).alloc (.cells #[.int .i64 4, .int .i64 2, .slice (some ⟨w.heap.size,0,none⟩) 8 8] 26):=⟨_,rfl⟩
 have X1:=aA (show Ext w w1 by rw[hw1];exact z_x)
 have B0:=aA (show Blk w1 w.heap.size 84 (aw15.map (Value.int .u16)).toArray by rw[hw1];exact Blk.over (Blk.new_ rfl))
 have BF:=aA (show Blk w1 (w.heap.size+1) 26 #[.int .i64 4, .int .i64 2, .slice (some ⟨w.heap.size,0,none⟩) 8 8] by rw[hw1];exact Blk.new_ (by simp))
 obtain⟨f,hf⟩: ∃f,w.heap.size=f:=⟨_,rfl⟩
 rw[hf]at B0 BF hw1
 rw[hf]
 rw[←hw1]
 clear hw1 hf
 have HN:=aA (pD (w:=w1) 8 aw15_good (qP B0.out) (by rw[rT];decide))
 refine HN.out.mono ?_
 clear HN
 rintro e w2 ⟨p,R,rfl,hw,x2,_,_⟩
 have HW:=aA hw
 have B2:=aA (B0.out.ext x2)
 have BF2:=aA (BF.out.ext x2)
 have X2:=aA (X1.out.trans x2)
 have HFI:=aA (nX hw aw15_good mW (by rw[rT];decide) (0,1) (3,1) 9)
 obtain⟨pb,hpb⟩: ∃z,p.b=z:=⟨_,rfl⟩
 rw[hpb]at HFI⊢
 simp only at HFI
 clear hw x2 B0 BF X1 hpb
 go_wp2_with fail
 refine HFI.out.mono ?_
 rintro e w3 ⟨x3,pp,cc,kk,er,v,hs,rfl,ho⟩
 obtain⟨rfl,rfl,rfl,rfl⟩:=hs.one aE3
 have B3:=aA (B2.out.ext x3)
 have BF3:=aA (BF2.out.ext x3)
 have X3:=aA (X2.out.trans x3)
 have O3:=aA ho
 obtain⟨va,vc,rfl⟩:=ho.slice
 simp only[List.length_cons,List.length_nil,Nat.zero_add,Nat.reduceAdd]at O3⊢
 clear hs ho x3 HFI HW B2 BF2
 have y0:=BF3.out.at 0 rfl;have y1:=BF3.out.at 1 rfl;have y2:=BF3.out.at 2 rfl;have yz:=BF3.out.lt
 have HSF:=aA (fun(w':World) (x:Ext w3 w')=>vN (w:=w') 4 2 (some ⟨f,0,none⟩) (l:=aw15) 8 0 1 3 1 9 ((qP B3.out).ext x) aw15_good.u16)
 rw[show aw15.length=8 from rfl]at HSF
 go_wp2_with fail
 refine(HSF.out _ ((Ext.refl _).alloc _)).mono ?_
 rintro e w5 ⟨x5,p5,c5,k5,e5,v5,hs5,rfl,ho5⟩
 obtain⟨rfl,rfl,rfl,rfl⟩:=hs5.one aE4
 obtain⟨v5a,v5c,rfl⟩:=ho5.slice
 have R5:=aA (show Blk w5 w3.heap.size 40 #[.slice va 6 vc, .int .u64 5, .int .i64 4] from(Blk.new_ rfl).ext x5)
 have X35:=aA (((Ext.refl w3).alloc _).trans x5)
 simp only[List.length_map,List.length_cons,List.length_nil,Nat.zero_add,Nat.reduceAdd]
 have O5:=aA (O3.out.ext X35.out)
 clear hs5 ho5 x5 y0 y1 y2 yz HSF B3 BF3 O3
 have r0:=R5.out.at 0 rfl;have r1:=R5.out.at 1 rfl;have r2:=R5.out.at 2 rfl;have rz:=R5.out.lt
 have HCE:=aA (fun(w':World) (x:Ext w5 w') (bv:Option Addr) (hb:RowC w' bv [(0,1),(1,1),(1,0),(2,0),(3,0),(3,1)])=>aAb va bv [(0,1),(1,1),(1,0),(2,0),(3,0),(3,1)] [(0,1),(1,1),(1,0),(2,0),(3,0),(3,1)] vc 6 w' (by decide) (Reads.rowC (n:=6) (c:=vc) ((O5.out.ext x).reads)).2 hb)
 simp only[List.length_cons,List.length_nil,Nat.zero_add,Nat.reduceAdd,decide_true]at HCE
 go_wp2_with fail
 refine(HCE.out _ (((Ext.refl _).alloc _).alloc _) _ (Reads.rowC (n:=6) (c:=6) (aG1 cellE _ #[.int .i64 0, .int .i64 1, .int .i64 1, .int .i64 1, .int .i64 1, .int .i64 0, .int .i64 2, .int .i64 0, .int .i64 3, .int .i64 0, .int .i64 3, .int .i64 1] 28 [(0,1),(1,1),(1,0),(2,0),(3,0),(3,1)] rfl _ _ _ (by simp) rfl)).2).mono ?_
 rintro e w7 ⟨rfl,x7⟩
 have S7:=aA (show Blk w7 w5.heap.size 40 #[.slice v5a 4 v5c, .int .u64 3, .int .i64 4] from((Blk.new_ rfl).over).ext x7)
 have X7:=aA ((X3.out.trans X35.out).trans ((((Ext.refl w5).alloc (.cells #[.slice v5a 4 v5c, .int .u64 3, .int .i64 4] 40)).alloc (.cells #[.int .i64 0, .int .i64 1, .int .i64 1, .int .i64 1, .int .i64 1, .int .i64 0, .int .i64 2, .int .i64 0, .int .i64 3, .int .i64 0, .int .i64 3, .int .i64 1] 28)).trans x7))
 clear x7 r0 r1 r2 rz
 have s0:=S7.out.at 0 rfl;have s1:=S7.out.at 1 rfl;have s2:=S7.out.at 2 rfl;have sz:=S7.out.lt
 go_wp2_with fail
 go_ret
 exact⟨rfl,X7.out⟩
end Go.Proofs.YtaellcgglldjaaaGreat

namespace Go.Proofs.YtaellcgglldjaaaGreat
open Go.RowKit
end Go.Proofs.YtaellcgglldjaaaGreat

namespace Go.Proofs.YtaellcgglldjaaaGreat
open Go.RowKit
theorem pC (W H x y:Int) (w:World) (hm:bM W H=true):
  Calls Tryz.prog 19 #[.agg #[.int .i64 W, .int .i64 H], .agg #[.int .i64 x, .int .i64 y]] w fun e w'=>e= .returned (.bool (inB W H x y))∧Ext w w':=by
 rw[aBw hm]
 have e0:bL 0 0 W H x y=(decide (0≤x)&&decide (0≤y)&&decide (x<W)&&decide (y<H)):=by
  rw[Bool.eq_iff_iff,hasB_true]
  simp
  omega
 rw[e0]
 clear hm e0
 go_enter Tryz.func19,Tryz.ntmps19
 go_wp2
 all_goals go_ret
 all_goals exact⟨by simp<;>omega,z_x⟩
end Go.Proofs.YtaellcgglldjaaaGreat

namespace Go.Proofs.YtaellcgglldjaaaGreat
open Go.RowKit
set_option maxRecDepth 100000 in
theorem aId {w:World} (W H:Int) (a:Option Addr) (n c:Nat) (s:Int):
  Calls Tryz.prog 33 #[.agg #[.int .i64 W, .int .i64 H, .slice a n c], .int .i64 s] w fun e w'=>e= .returned (.int .i64 (fK W H n s))∧Ext w w':=by
 have H1:=aA (fun w'=>yX W H a n c w')
 have H2:=aA (fun w'=>aDd W H s w')
 by_cases h0:aS W H n=0
 ·rw[h0]at H1
  by_cases h1:aL W H s=true
  ·rw[h1]at H2
   have he:fK W H n s=0:=by unfold fK;rw[if_pos h0,if_pos h1]
   rw[he]
   clear h0 h1 he
   go_enter Tryz.func33,Tryz.ntmps33
   go_wp2_with (first
    |(go_at_call 74;refine(H1.out _).mono ?_;rintro e w1 ⟨rfl,hb1⟩;obtain⟨hc1,hf1⟩:=hb1.cells;have hz1:=hb1.size;(repeat(first|rw[World.size_alloc]at hz1|rw[World.size_drew]at hz1));have z1_0:w.heap.size<w1.heap.size:=(by omega))
    |(go_at_call 75;refine(H2.out _).mono ?_;rintro e w2 ⟨rfl,hb2⟩;obtain⟨hc2,hf2⟩:=hb2.cells;have hz2:=hb2.size;(repeat(first|rw[World.size_alloc]at hz2|rw[World.size_drew]at hz2));have z2_0:w.heap.size<w2.heap.size:=(by omega)))
   go_ret
   exact⟨rfl,z_x⟩
  ·have h1:aL W H s=false:=by simpa using h1
   rw[h1]at H2
   have he:fK W H n s=10:=by unfold fK;rw[if_pos h0,if_neg (by rw[h1];simp)]
   rw[he]
   clear h0 h1 he
   go_enter Tryz.func33,Tryz.ntmps33
   go_wp2_with (first
    |(go_at_call 74;refine(H1.out _).mono ?_;rintro e w1 ⟨rfl,hb1⟩;obtain⟨hc1,hf1⟩:=hb1.cells;have hz1:=hb1.size;(repeat(first|rw[World.size_alloc]at hz1|rw[World.size_drew]at hz1));have z1_0:w.heap.size<w1.heap.size:=(by omega))
    |(go_at_call 75;refine(H2.out _).mono ?_;rintro e w2 ⟨rfl,hb2⟩;obtain⟨hc2,hf2⟩:=hb2.cells;have hz2:=hb2.size;(repeat(first|rw[World.size_alloc]at hz2|rw[World.size_drew]at hz2));have z2_0:w.heap.size<w2.heap.size:=(by omega)))
   go_ret
   exact⟨rfl,z_x⟩
 ·have he:fK W H n s=aS W H n:=by unfold fK;rw[if_neg h0]
  rw[he]
  generalize aS W H n=er at *
  have hq:(er==0)=false:=by simpa using h0
  clear h0 he
  go_enter Tryz.func33,Tryz.ntmps33
  go_wp2_with (go_at_call 74;refine(H1.out _).mono ?_;rintro e w1 ⟨rfl,hb1⟩;obtain⟨hc1,hf1⟩:=hb1.cells;have hz1:=hb1.size;(repeat(first|rw[World.size_alloc]at hz1|rw[World.size_drew]at hz1));have z1_0:w.heap.size<w1.heap.size:=(by omega))
  go_ret
  exact⟨rfl,z_x⟩
set_option maxRecDepth 100000 in
theorem kE (W H:Int) (a:Option Addr) (n c:Nat) (s fx fy tx ty b:Int) (w:World):
  Calls Tryz.prog 9 #[.agg #[.int .i64 W, .int .i64 H, .slice a n c], .agg #[.int .i64 s, .int .i64 fx, .int .i64 fy, .int .i64 tx, .int .i64 ty, .int .i64 b]] w fun e w'=>e= .returned (.bool (decide (n≤150)&&decide (fK W H n s=0)))∧Ext w w':=by
 have HM:=aA (fun(w':World)=>aId (w:=w') W H a n c s)
 by_cases hn:n≤150
 ·have hb:decide ((n:Int)≤150)=true:=by simp;omega
  rw[show decide (n≤150)=true by simpa using hn,Bool.true_and]
  obtain⟨er,her⟩: ∃z,fK W H n s=z:=⟨_,rfl⟩
  rw[her]at HM⊢
  have hz:(er==0)=decide (er=0):=by rw[Bool.eq_iff_iff];simp
  clear hn her
  go_enter Tryz.func9,Tryz.ntmps9
  go_wp2_with (go_at_call 33;refine(HM.out _).mono ?_;rintro e w1 ⟨rfl,hb1⟩;obtain⟨hc1,hf1⟩:=hb1.cells;have hz1:=hb1.size;(repeat(first|rw[World.size_alloc]at hz1|rw[World.size_drew]at hz1));have z1_0:w.heap.size<w1.heap.size:=(by omega))
  go_ret
  exact⟨by rw[←hz]<;>rfl,z_x⟩
 ·have hb:decide ((n:Int)≤150)=false:=by simp;omega
  rw[show decide (n≤150)=false by simpa using hn,Bool.false_and]
  clear hn HM
  go_enter Tryz.func9,Tryz.ntmps9
  go_wp2_with fail
  go_ret
  exact⟨rfl,z_x⟩
theorem yO {W H s:Int} {l:List Int} (hu:cS l) (he:fK W H l.length s=0):Good W H s l:=by
 unfold fK at he
 by_cases h0:aS W H l.length=0
 ·rw[if_pos h0]at he
  by_cases hr2:aL W H s=true
  ·exact⟨h0,hr2,hu⟩
  ·rw[if_neg hr2]at he;cases he
 ·rw[if_neg h0]at he;exact absurd he h0
end Go.Proofs.YtaellcgglldjaaaGreat

namespace Go.Proofs.YtaellcgglldjaaaGreat
open Go.RowKit
section
variable {w:World} {p:Spot} {R:Nat→Prop} {W H s:Int} {l:List Int}
end
end Go.Proofs.YtaellcgglldjaaaGreat

namespace Go.Proofs.YtaellcgglldjaaaGreat
open Go.RowKit
set_option maxRecDepth 100000 in
theorem yP (W H:Int) (a:Option Addr) (n c:Nat) (s fx fy tx ty b:Int) (w:World) (hm:bM W H=true):
  Calls Tryz.prog 13 #[.agg #[.int .i64 W, .int .i64 H, .slice a n c], .agg #[.int .i64 s, .int .i64 fx, .int .i64 fy, .int .i64 tx, .int .i64 ty, .int .i64 b]] w fun e w'=>e= .returned (.bool (inB W H fx fy&&inB W H tx ty))∧Ext w w':=by
 have HI1:=aA (fun(w':World)=>pC W H fx fy w' hm)
 have HI2:=aA (fun(w':World)=>pC W H tx ty w' hm)
 clear hm
 generalize inB W H fx fy=b1 at *
 generalize inB W H tx ty=b2 at *
 go_enter Tryz.func13,Tryz.ntmps13
 go_upto_region 1 with(fail)
 obtain⟨w1,hw1⟩: ∃z,z=(w.alloc (.cells #[.int .i64 W, .int .i64 H, .slice a n c] 26)).alloc (.cells #[.int .i64 s, .int .i64 fx, .int .i64 fy, .int .i64 tx, .int .i64 ty, .int .i64 b] 30):=⟨_,rfl⟩
 have X1:=aA (show Ext w w1 by rw[hw1];exact((Ext.refl _).alloc _).alloc _)
 have F1:=aA (show Blk w1 w.heap.size 26 #[.int .i64 W, .int .i64 H, .slice a n c] by rw[hw1];exact(Blk.new_ rfl).over)
 have Q1:=aA (show Blk w1 (w.heap.size+1) 30 #[.int .i64 s, .int .i64 fx, .int .i64 fy, .int .i64 tx, .int .i64 ty, .int .i64 b] by rw[hw1];exact Blk.new_ (by simp))
 rw[←hw1]
 obtain⟨fb,hfb⟩: ∃z,w.heap.size=z:=⟨_,rfl⟩
 rw[hfb]at F1 Q1⊢
 clear hw1 hfb
 have q0:=Q1.out.at 0 rfl;have q1:=Q1.out.at 1 rfl;have q2:=Q1.out.at 2 rfl;have q3:=Q1.out.at 3 rfl;have q4:=Q1.out.at 4 rfl;have q5:=Q1.out.at 5 rfl;have qz:=Q1.out.lt
 have f0:=F1.out.at 0 rfl;have f1:=F1.out.at 1 rfl;have f2:=F1.out.at 2 rfl;have fz:=F1.out.lt
 go_wp2_with fail
 refine(HI1.out _).mono ?_
 rintro e w2 ⟨rfl,x2⟩
 have X2:=aA (X1.out.trans x2)
 have F2:=aA (F1.out.ext x2)
 have Q2:=aA (Q1.out.ext x2)
 clear x2 q0 q1 q2 q3 q4 q5 qz f0 f1 f2 fz F1 Q1 X1
 cases b1
 ·clear HI1 HI2
  go_wp2_with fail
  go_ret
  exact⟨rfl,X2.out⟩
 ·have q0:=Q2.out.at 0 rfl;have q1:=Q2.out.at 1 rfl;have q2:=Q2.out.at 2 rfl;have q3:=Q2.out.at 3 rfl;have q4:=Q2.out.at 4 rfl;have q5:=Q2.out.at 5 rfl;have qz:=Q2.out.lt
  have f0:=F2.out.at 0 rfl;have f1:=F2.out.at 1 rfl;have f2:=F2.out.at 2 rfl;have fz:=F2.out.lt
  go_wp2_with fail
  refine(HI2.out _).mono ?_
  rintro e w3 ⟨rfl,x3⟩
  have X3:=aA (X2.out.trans x3)
  clear x3
  go_wp2_with fail
  go_ret
  exact⟨rfl,X3.out⟩
theorem aIe {α:Type} {E:Enc α} {w:World} {a:Option Addr} {n c:Nat} {l:List α} (h:Reads E w (.slice a n c) l) {k:Nat} {y:α} (hk:l[k]? =some y):
  ∃b off,a=some ⟨b,off,none⟩∧b<w.heap.size∧ ∀(j:Nat) (u:Value),(E.cells y)[j]? =some u→w.cell? ⟨b,off+(k*E.size+j),none⟩=some u:=by
 rcases h with⟨_,rfl⟩|⟨b,off,cap,hv,hb,hc⟩
 ·simp at hk
 ·injection hv with h1 _ _
  exact⟨b,off,h1,hb,hc k y hk⟩
end Go.Proofs.YtaellcgglldjaaaGreat

namespace Go.Proofs.YtaellcgglldjaaaGreat
open Go.RowKit
theorem aFi {G:LGr} {W:Int} {s t:Nat} {P:List Nat→List aB} {A:AS} {p:List aB} {c k e b:Int} (r:LRun G W t b P A p c k e) (I:LInv G s A) (hb:(G.n:Int)≤b):(e=0∨e=22)∧k≤G.n∧0≤k:=by
 induction r with
 |none _=>exact⟨.inr rfl,I.few.2,I.few.1⟩
 |full v hv hc=>have:=I.opens hv;omega
 |found hB _ _=>exact⟨.inl rfl,by have:=I.opens hB.1;omega,by have:=I.few.1;omega⟩
 |next hB _ _ _ ih=>exact ih (kC I hB.1)
theorem vP {W H s:Int} {l:List Int} (g:Good W H s l) (hl:l.length≤150) {f t:aB} (hf:inB W H f.1 f.2=true):LInv (hGr g hl f t) (aC W f) (aV (aC W f)):=by
 have hfn:f∈cE W H (aI W H s l) f t:=by
  have:=inB_true.1 hf
  exact nodesL_mem.2 ⟨by omega, .inl rfl⟩
 exact sI ((eF g).2 ⟨_,hfn,rfl⟩)
theorem vO (s:Nat):(aV s).cnt=0:=rfl
theorem uU {W H s:Int} {l:List Int} (g:Good W H s l) (hl:l.length≤150):(aI W H s l).length≤45000:=by
 have h1:cnt W H s≤W*H:=by
  obtain⟨r1,r2,r3,r4,r5,r6⟩:=rightB_true.1 g.right
  have b1:=bR W s r5 r6 r1 r2
  have b2:=bR H s r5 r6 r3 r4
  have hle: ∀L:Int,1≤L→acr L s≤L:=fun L hL=>by
   unfold acr
   apply Int.ediv_le_of_le_mul (by omega)
   have:=Int.mul_nonneg (show(0:Int)≤L-1 by omega) (show(0:Int)≤s-1 by omega)
   rw[Int.sub_mul,Int.mul_sub]at this
   omega
  unfold cnt
  exact Int.mul_le_mul (hle W r1) (hle H r3) (by omega) (by omega)
 have h2:=(checkE_ok.1 g.ok).2
 have h3:=g.cnt
 have h4:=aBz (l:=l) g.right (n:=(cnt W H s).toNat) (by omega)
 unfold aI
 omega
theorem aKt {W H s:Int} {l:List Int} (g:Good W H s l) (hl:l.length≤150) {f t a:aB} (ha:inB W H a.1 a.2=true) {q:aB×Int} (h:q∈cO W H s l (aI W H s l) f t a):(bO W H s l a q.1).length≤150:=by
 obtain⟨h1,_,_,_,h5⟩:=kA g hl ha h
 rcases h5 with⟨e,_,hd⟩|⟨e,_⟩
 ·unfold bO
  rw[if_pos e]
  split
  ·next hx=>
   have hb:=Classical.choose_spec (Classical.choose_spec hx)
   obtain⟨L,hL⟩:=mY g ha
   rw[hL]at hd
   have F:=eD (Classical.choose hx) a
   have hlt:cJ (Classical.choose hx) a (aC W q.1)<aE:=by have:=F.le (aC W q.1);exact Std.lt_of_le_of_ne this hd
   have hfew:_≤l.length:=hb.few F hlt
   rw[List.length_drop,List.length_map,List.length_reverse]
   omega
  ·exact Nat.zero_le _
 ·rw[kJ e,List.length_singleton];omega
theorem aFt {came:Nat→Int} {wR:Nat→Nat→List aB} {P:Nat→Prop} (hw: ∀v u:Nat,P v→came v=(u:Int)→(wR u v).length≤150∧P u) {v:Nat} {ch:List Nat} (C:Chain came v ch): ∀acc,P v→(eN wR acc ch).length≤acc.length+150*ch.length:=by
 induction C with
 |stop _=>intro acc _;simp[eN]
 |go hc C ih=>
  intro acc hP
  rename_i v u r
  obtain⟨h1,h2⟩:=hw v u hP hc
  have hr: ∃q,r=u::q:=by cases C<;>exact⟨_,rfl⟩
  obtain⟨q,rfl⟩:=hr
  have:=ih (wR u v++acc) h2
  rw[List.length_append]at this
  simp only[eN,List.length_cons]at this⊢
  omega
theorem aI3 {W H s:Int} {l:List Int} (g:Good W H s l) (hl:l.length≤150) {f t:aB} (hf:inB W H f.1 f.2=true) {v:Nat} {b:Int} {A:AS} {p:List aB} {c k e:Int} (r:LRun (hGr g hl f t) W v b (iL W H s l f) A p c k e) (I:LInv (hGr g hl f t) (aC W f) A):p.length≤22501:=by
 induction r with
 |none _=>exact Nat.zero_le _
 |full _ _ _=>exact Nat.zero_le _
 |found hB hn0 hc=>
  rename_i A ch
  have h0:A.st v≠0:=by rw[hB.1];decide
  obtain⟨ch',c1,c2,c3⟩:=vA I (A.g v).toNat v (by have:=I.bd v h0;omega) h0
  obtain rfl:=hc.one c1
  have hll:ch.length≤l.length:=iY c3 (fun u hu=>(hGr g hl f t).lt u (I.op u (c2 u hu).1))
  have:=aFt (P:=fun v=>A.st v≠0) (wR:=fun u v=>bO W H s l (aD W u) (aD W v)) (fun v u hv hcm=>by
   have hs:v≠aC W f:=fun e=>by subst e;rw[I.sc]at hcm;omega
   obtain⟨u',x,u1,u2,u3,_⟩:=I.back v hv hs
   obtain rfl:u=u':=by omega
   refine⟨?_,by omega⟩
   have hu:=(fJ g ((hGr g hl f t).lt u (I.op u (by omega)))).1
   obtain⟨q,hq,he⟩:=List.mem_map.1 u3
   have hin:=eX g (kA g hl hu hq).1
   have e1:aC W q.1=v:=congrArg Prod.fst he
   rw[←e1,aW hin]
   exact aKt g hl hu hq) hc [] h0
  show(f::_).length≤_
  rw[List.length_cons]
  simp only[List.length_nil]at this
  omega
 |next hB _ _ _ ih=>exact ih (kC I hB.1)
theorem sF {W H s:Int} {l:List Int} {f t:aB} {b:Int} {p:List aB} {c k e:Int} (h:HSrch W H s l f t b p c k e):p.length≤22501:=by
 rcases h with⟨_,rfl,_⟩|⟨_,_,rfl,_⟩|⟨_,_,_,rfl,_⟩|⟨h1,_,_,g,hl,h4⟩
 ·exact Nat.zero_le _
 ·exact Nat.zero_le _
 ·exact Nat.zero_le _
 ·exact aI3 g hl h1.1 h4 (vP g hl h1.1)
end Go.Proofs.YtaellcgglldjaaaGreat

namespace Go.Proofs.YtaellcgglldjaaaGreat
open Go.RowKit
structure rR (G:LGr) (s:Nat) (D:Nat→Int) (C:Nat→Nat→Int) (op:Nat→Bool):Prop where
 d0:D s=0
 nn: ∀v,0≤D v
 leg: ∀c,G.op c=true→ ∀q∈G.legs c,D c<aE→D q.1≤D c+q.2
 own: ∀c,G.op c=true→C c c=0
 near: ∀c v,G.op c=true→G.op v=true→c≠v→C c v<aE→(v,C c v)∈G.legs c
 back: ∀x,op x=true→x≠s→D x<aE→ ∃y,op y=true∧D y<D x∧((∀c,G.op c=true→C c y<aE→C c x<aE∧C c x≤C c y+(D x-D y))∨(G.op y=true∧G.op x=true∧(x,D x-D y)∈G.legs y))
def pQ (G:LGr) (A:AS):Prop:= ∀c,A.st c=2→ ∀q∈G.legs c,A.st q.1≠0∧A.g q.1≤A.g c+q.2
theorem aLd (c:Nat) (A:AS) (q:Nat×Int) (u:Nat) (h:A.st u≠0):(rl c A q).st u≠0∧(rl c A q).g u≤A.g u:=by
 unfold rl
 split
 ·next k=>
  by_cases e:u=q.1
  ·subst e
   have h1:(A.put q.1 (A.g c+q.2) c).st q.1=1:=bH _ _ _
   have h2:(A.put q.1 (A.g c+q.2) c).g q.1=A.g c+q.2:=pM _ _ _
   rw[h1,h2]
   rcases k with k|k
   ·exact absurd k h
   ·exact⟨by decide,by omega⟩
  ·have h1:(A.put q.1 (A.g c+q.2) c).st u=A.st u:=gC _ _ e
   have h2:(A.put q.1 (A.g c+q.2) c).g u=A.g u:=gB _ _ e
   rw[h1,h2]
   exact⟨h,Int.le_refl _⟩
 ·exact⟨h,Int.le_refl _⟩
theorem aLc (c:Nat) (A:AS) (q:Nat×Int) (h2: ∀v,A.st v≤2) (hs:A.st q.1=2→A.g q.1≤A.g c+q.2):(rl c A q).st q.1≠0∧(rl c A q).g q.1≤A.g c+q.2:=by
 unfold rl
 split
 ·have h1:(A.put q.1 (A.g c+q.2) c).st q.1=1:=bH _ _ _
  have h2:(A.put q.1 (A.g c+q.2) c).g q.1=A.g c+q.2:=pM _ _ _
  rw[h1,h2]
  exact⟨by decide,Int.le_refl _⟩
 ·next k=>
  have:=h2 q.1
  have k0:A.st q.1≠0:=fun e=>k (.inl e)
  refine⟨k0,?_⟩
  by_cases e:A.st q.1=2
  ·exact hs e
  ·have e1:A.st q.1=1:=by omega
   have: ¬A.g c+q.2<A.g q.1:=fun h=>k (.inr ⟨e1,h⟩)
   omega
theorem tY (c:Nat): ∀(L:List (Nat×Int)) (A:AS) (u:Nat),A.st u≠0→(rls c A L).st u≠0∧(rls c A L).g u≤A.g u
 |[],_,_,h=>⟨h,Int.le_refl _⟩
 |q::L,A,u,h=>by
  obtain⟨h1,h2⟩:=aLd c A q u h
  obtain⟨k1,k2⟩:=tY c L (rl c A q) u h1
  exact⟨k1,Int.le_trans k2 h2⟩
theorem aC3 (c:Nat): ∀(L:List (Nat×Int)) (A:AS),(∀v,A.st v≤2)→tK A c→A.st c=2→(∀q∈L,0≤q.2)→ ∀q∈L,(rls c A L).st q.1≠0∧(rls c A L).g q.1≤A.g c+q.2
 |[],_,_,_,_,_,_,h=>by cases h
 |p::L,A,h2,hT,hc,hl,q,hq=>by
  show(rls c (rl c A p) L).st q.1≠0∧(rls c (rl c A p) L).g q.1≤A.g c+q.2
  obtain⟨k1,k2,_⟩:=sU c A p c hc
  rcases List.mem_cons.1 hq with rfl|hq
  ·obtain⟨m1,m2⟩:=aLc c A q h2 (fun e=>by have:=hT.2 _ e;have:=hl q List.mem_cons_self;omega)
   obtain⟨n1,n2⟩:=tY c L (rl c A q) q.1 m1
   exact⟨n1,Int.le_trans n2 m2⟩
  ·have h2': ∀v,(rl c A p).st v≤2:=fun v=>by
    rcases aJ8 c A p v with e|⟨_,e,_⟩
    ·rw[e];exact h2 v
    ·rw[e];decide
   have:=aC3 c L (rl c A p) h2' (aGx hT hc (hl p List.mem_cons_self)) k1 (fun x hx=>hl x (List.mem_cons_of_mem _ hx)) q hq
   rw[k2]at this
   exact this
theorem aDn {G:LGr} (s:Nat):pQ G (aV s):=fun c hc=>by
 unfold aV bK at hc
 simp only at hc
 split at hc<;>omega
theorem aGw {G:LGr} {s:Nat} {A:AS} {W:Int} (I:LInv G s A) (T:pQ G A) (M:gK A) {v:Nat} (hb:dA W (fun _=>0) A v):pQ G (eP G A v):=fun c hc q hq=>by
 have I':=mO I hb.1
 have hT:=oK M hb
 have hv2:(A.settle v).st v=2:=bH _ _ _
 have hgs:(A.settle v).g=A.g:=rfl
 have hst: ∀x,(A.settle v).st x=if x=v then 2 else A.st x:=fun x=>rfl
 have hlv: ∀q∈G.legs v,0≤q.2:=fun q hq=>by have:=(G.leg v (I.op v (by rw[hb.1];decide)) q hq).2;omega
 show(rls v (A.settle v) (G.legs v)).st q.1≠0∧(rls v (A.settle v) (G.legs v)).g q.1≤(rls v (A.settle v) (G.legs v)).g c+q.2
 rcases (rL G A v c).2.1 hc with rfl|h2
 ·obtain⟨_,k2,_⟩:=sV c (G.legs c) (A.settle c) c hv2
  rw[k2]
  exact aC3 c (G.legs c) (A.settle c) I'.two hT hv2 hlv q hq
 ·have hne:c≠v:=fun e=>by have:=hb.1;rw[e]at h2;omega
  have hc2:(A.settle v).st c=2:=by rw[hst,if_neg hne];exact h2
  obtain⟨_,k2,_⟩:=sV v (G.legs v) (A.settle v) c hc2
  obtain⟨t1,t2⟩:=T c h2 q hq
  have h0:(A.settle v).st q.1≠0:=by rw[hst];split<;>omega
  obtain⟨n1,n2⟩:=tY v (G.legs v) (A.settle v) q.1 h0
  rw[hgs]at n2 k2
  exact⟨n1,by rw[k2];omega⟩
theorem aFl {G:LGr} {s:Nat} {A:AS} {W:Int} (I:LInv G s A) (M:gK A) {v:Nat} (hb:dA W (fun _=>0) A v):gK (eP G A v):=
 (qB (G.legs v) (oK M hb) (bH _ _ _) (fun q hq=>by have:=(G.leg v (I.op v (by rw[hb.1];decide)) q hq).2;omega)).1
section
variable {G:LGr} {s:Nat} {D:Nat→Int} {C:Nat→Nat→Int} {op:Nat→Bool} {A:AS}
theorem aJ5 (X:rR G s D C op) (I:LInv G s A) (T:pQ G A): ∀(k:Nat) (x:Nat),D x=(k:Int)→op x=true→D x<aE→(∃c,A.st c=2∧C c x<aE∧A.g c+C c x≤D x)∨ ∃n,A.st n=1∧A.g n≤D x:=by
 intro k
 induction k using Nat.strongRecOn with
 |_ k ih=>
  intro x hx ho hlt
  by_cases hs:x=s
  ·subst hs
   have h1:=I.s0
   have h2:=I.two x
   have h3:=I.sg
   have h4:=X.d0
   by_cases e:A.st x=2
   ·have hc0:=X.own x (I.op x (by omega))
    exact .inl ⟨x,e,by rw[hc0];decide,by omega⟩
   ·exact .inr ⟨x,by omega,by omega⟩
  ·obtain⟨y,yo,yd,h⟩:=X.back x ho hs hlt
   have hy0:=X.nn y
   rcases ih (D y).toNat (by omega) y (by omega) yo (by omega) with⟨c,c1,c2,c3⟩|⟨n,n1,n2⟩
   ·have hco:=I.op c (by omega)
    rcases h with h|⟨h1,h2,h3⟩
    ·obtain⟨k1,k2⟩:=h c hco c2
     exact .inl ⟨c,c1,k1,by omega⟩
    ·have hy:A.st y≠0∧A.g y≤D y:=by
      by_cases e:c=y
      ·subst e;have hc0:=X.own c hco;exact⟨by omega,by omega⟩
      ·obtain⟨t1,t2⟩:=T c c1 _ (X.near c y hco h1 e c2)
       simp only at t1 t2
       exact⟨t1,by omega⟩
     by_cases e:A.st y=2
     ·obtain⟨t1,t2⟩:=T y e _ h3
      simp only at t1 t2
      by_cases e2:A.st x=2
      ·have hc0:=X.own x h2
       exact .inl ⟨x,e2,by rw[hc0];decide,by omega⟩
      ·exact .inr ⟨x,by have:=I.two x;omega,by omega⟩
     ·exact .inr ⟨y,by have:=I.two y;omega,by omega⟩
   ·exact .inr ⟨n,n1,by omega⟩
theorem aLn (X:rR G s D C op) (hn:(G.n:Int)≤1000) (I:LInv G s A): ∀(k:Nat) (v:Nat),A.g v=(k:Int)→A.st v≠0→D v≤A.g v:=by
 intro k
 induction k using Nat.strongRecOn with
 |_ k ih=>
  intro v hv h0
  by_cases hs:v=s
  ·subst hs;have:=X.d0;have:=I.sg;omega
  ·obtain⟨u,x,u1,u2,u3,u4⟩:=I.back v h0 hs
   have hx:=(G.leg u (I.op u (by omega)) _ u3).2
   simp only at hx
   have hu:=I.bd u (by omega)
   have hf:=I.few
   have h1:=ih (A.g u).toNat (by omega) u (by omega) (by omega)
   have h2:=X.leg u (I.op u (by omega)) _ u3 (by show _<(18446744073709551615:Int);omega)
   simp only at h2
   omega
theorem aJq (X:rR G s D C op) (hn:(G.n:Int)≤1000) (hop: ∀v,G.op v=true→op v=true) (I:LInv G s A) (T:pQ G A) {W:Int} {v:Nat} (hb:dA W (fun _=>0) A v):A.g v=D v∧D v<aE:=by
 have h0:A.st v≠0:=by rw[hb.1];decide
 have hg:=I.bd v h0
 have hf:=I.few
 have h1:=aLn X hn I (A.g v).toNat v (by omega) h0
 have hlt:D v<aE:=by show _<(18446744073709551615:Int);omega
 refine⟨?_,hlt⟩
 have hvo:=I.op v h0
 have hnn:=X.nn v
 rcases aJ5 X I T (D v).toNat v (by omega) (hop v hvo) hlt with⟨c,c1,c2,c3⟩|⟨n,n1,n2⟩
 ·have hne:c≠v:=fun e=>by have:=hb.1;rw[e]at c1;omega
  obtain⟨_,t2⟩:=T c c1 _ (X.near c v (I.op c (by omega)) hvo hne c2)
  simp only at t2
  omega
 ·have:=tL hb n1
  omega
theorem aFh (X:rR G s D C op) (hn:(G.n:Int)≤1000) (hop: ∀v,G.op v=true→op v=true) {W:Int} {t:Nat} (hto:G.op t=true) {b:Int} {P:List Nat→List aB} {p:List aB} {c k e:Int} (r:LRun G W t b P A p c k e) (I:LInv G s A) (T:pQ G A) (M:gK A) (ht:A.st t≠2):
  (e=0→c=D t∧D t<aE)∧(e=22→ ¬D t<aE):=by
 induction r with
 |none h0=>
  refine⟨fun h=>by omega,fun _ hlt=> ?_⟩
  rename_i A
  have hnn:=X.nn t
  rcases aJ5 X I T (D t).toNat t (by omega) (hop t hto) hlt with⟨c,c1,c2,c3⟩|⟨n,n1,n2⟩
  ·have hne:c≠t:=fun e=>ht (e▸c1)
   obtain⟨t1,_⟩:=T c c1 _ (X.near c t (I.op c (by omega)) hto hne c2)
   simp only at t1
   have:=I.two t
   have:=h0 t
   omega
  ·exact h0 n n1
 |full _ _ _=>exact⟨fun h=>by omega,fun h=>by omega⟩
 |found hB _ _=>
  obtain⟨h1,h2⟩:=aJq X hn hop I T hB
  exact⟨fun _=>⟨h1,h2⟩,fun h=>by omega⟩
 |next hB _ hv _ ih=>
  refine ih (kC I hB.1) (aGw I T M hB) (aFl I M hB) fun h=> ?_
  rcases (rL G _ _ _).2.1 h with e|e
  ·exact hv e.symm
  ·exact ht e
end
end Go.Proofs.YtaellcgglldjaaaGreat

namespace Go.Proofs.YtaellcgglldjaaaGreat
open Go.RowKit
section
variable {W H s:Int} {l:List Int}
theorem bF (g:Good W H s l):LandP W H l 0 0 W H:=by
 obtain⟨hm,hl⟩:=checkE_ok.1 g.ok
 have:=mayB_true.1 hm
 exact⟨hm,hl,g.u16,fitsR_true.2 (by omega)⟩
def dO (W s:Int) (G:List (aB×aB)) (a b:aB):Bool:=decide (ofN W s a.1 a.2=ofN W s b.1 b.2)||(decide ((a,b)∈G)||decide ((b,a)∈G))
theorem aCk {G:List (aB×aB)} {a b:aB}:dO W s G a b=dO W s G b a:=by
 unfold dO
 rw[Bool.or_comm (decide ((a,b)∈G))]
 congr 1
 exact decide_eq_decide.2 ⟨fun h=>h.symm,fun h=>h.symm⟩
theorem cross_iff {G:List (aB×aB)} {a b:aB}:dO W s G a b=true↔ofN W s a.1 a.2=ofN W s b.1 b.2∨(a,b)∈G∨(b,a)∈G:=by
 unfold dO
 simp only[Bool.or_eq_true,decide_eq_true_eq]
def aZ (g:Good W H s l):Net:=
 {aF (bF g) with
  adj:=fun v=>((aF (bF g)).adj v).filter fun u=>dO W s (aI W H s l) (aD W u) (aD W v)
  sym:=fun u v hu hv h=>by
   obtain⟨h1,h2⟩:=List.mem_filter.1 h
   exact List.mem_filter.2 ⟨(aF (bF g)).sym u v hu hv h1,by rw[aCk];exact h2⟩}
theorem k_adj {g:Good W H s l} {u v:Nat}:u∈(aZ g).adj v↔u∈(aF (bF g)).adj v∧dO W s (aI W H s l) (aD W u) (aD W v)=true:=List.mem_filter
theorem dW (g:Good W H s l) {c:aB} (hc:inB W H c.1 c.2=true):(aZ g).op (aC W c)=true↔0<aH l W c:=by
 have b:=inB_true.1 hc
 show opV _ _ _ _=true↔_
 rw[(bF g).opV_idx (by omega)]
 unfold aY
 rw[hasB_true.2 (by omega),Bool.true_and,decide_eq_true_eq]
theorem rV (g:Good W H s l) {id:Int} (hi:0≤id∧id<cnt W H s) (L:cT W H s id l) {v:Nat} (hv:(aF L).op v=true):ofN W s (aD W v).1 (aD W v).2=id:=by
 have hv':opV (aY l W (aU W s id) (aP W s id) (bB W s id) (bA W H s id)) W l.length v=true:=hv
 unfold opV at hv'
 rw[Bool.and_eq_true]at hv'
 have h:=(cC hv'.2).1
 rw[show bL (aU W s id) (aP W s id) (bB W s id) (bA W H s id) (vx W v) (vy W v)=eB W H s id (aD W v) from(fP g.right hi (aD W v)).symm]at h
 unfold eB at h
 rw[Bool.and_eq_true,decide_eq_true_eq]at h
 exact h.2
theorem tM (g:Good W H s l) {id:Int} (hi:0≤id∧id<cnt W H s) (L:cT W H s id l):(aF L).Sub (aZ g):=by
 have h:=aKa L (bF g)
 refine⟨h.op,h.cost,fun u v hu hv ha=>k_adj.2 ⟨h.adj u v hu hv ha,cross_iff.2 (.inl ?_)⟩⟩
 rw[rV g hi L hu,rV g hi L hv]
theorem aLq (g:Good W H s l):(aZ g).Sub (aF (bF g)):=⟨fun _ h=>h,fun _ _=>Int.le_refl _,fun _ _ _ _ h=>(k_adj.1 h).1⟩
theorem jZ (g:Good W H s l) {e:aB×aB} (he:e∈aI W H s l):0<aH l W e.1∧0<aH l W e.2:=by
 obtain⟨_,_,_,_,_,_,_,_,_,_,h,_⟩:=eU g.right he
 unfold kW at h
 rw[Bool.and_eq_true,decide_eq_true_eq,decide_eq_true_eq]at h
 exact h
theorem aEv (g:Good W H s l) {e:aB×aB} (he:e∈aI W H s l): ∃k,k<4∧e.1=(e.2.1+aQ k,e.2.2+aR k):=by
 obtain⟨a,b,_,_,_,hp,_,_,_,_,_,k,hk⟩:=eU g.right he
 obtain⟨_,_,_,_,h⟩:=eJ g.right hp hk
 rcases h with⟨_,_,h,_⟩|⟨_,h,_⟩
 ·refine⟨3,by decide,?_⟩
  rw[h]
  simp only[aQ,aR,Prod.mk.injEq]
  omega
 ·refine⟨0,by decide,?_⟩
  rw[h]
  simp only[aQ,aR,Prod.mk.injEq]
  omega
theorem rC (g:Good W H s l) {e:aB×aB} (he:e∈aI W H s l):aC W e.1∈(aZ g).adj (aC W e.2)∧aC W e.2∈(aZ g).adj (aC W e.1):=by
 obtain⟨_,_,_,_,_,_,i1,i2,_⟩:=eU g.right he
 obtain⟨o1,o2⟩:=jZ g he
 have h1:aC W e.1∈(aZ g).adj (aC W e.2):=by
  refine k_adj.2 ⟨?_,?_⟩
  ·obtain⟨k,hk,hs⟩:=aEv g he
   have b:=inB_true.1 i1
   have b2:=inB_true.1 i2
   show _∈wQ _ _ _
   unfold wQ
   rw[List.mem_map]
   obtain⟨⟨p,q⟩,⟨x,y⟩⟩:=e
   simp only at b b2 hs o1⊢
   refine⟨(p,q),mem_nbC.2 ⟨k,hk,?_,?_⟩,rfl⟩
   ·rw[cQ (by omega) (by omega) (by omega),cR (by omega) (by omega) (by omega)]
    unfold aY
    rw[←hs]
    injection hs with e1 e2
    rw[←e1,←e2,hasB_true.2 (by omega),decide_eq_true o1]
    rfl
   ·rw[cQ (by omega) (by omega) (by omega),cR (by omega) (by omega) (by omega)]
    exact hs
  ·rw[aW i1,aW i2]
   exact cross_iff.2 (.inr (.inl he))
 exact⟨h1,(aZ g).sym _ _ ((dW g i1).2 o1) ((dW g i2).2 o2) h1⟩
end
end Go.Proofs.YtaellcgglldjaaaGreat

